/- ModelTexts: the card. -/
import Derived.Test.YteocalfeoefeoaaGreatDoorP37
import Derived.Test.YteocalfeoefeoaaGreatDoorP47
import Derived.Test.YteocalfeoefeoaaGreatDoorP48
import Derived.Test.YteocalfeoefeoaaGreatDoorP49
import Derived.Test.YteocalfeoefeoaaGreatDoorP50
import Derived.Test.YteocalfeoefeoaaGreatDoorP00
set_option linter.unusedVariables false
set_option linter.unusedSimpArgs false
set_option linter.unusedSectionVars false
namespace Go.Proofs.YteocalfeoefeoaaGreatDoor.texting
open Go Go.Abs Go.Abs.mN Go.Proofs Go.ChangeShapes Go.WideShapes Go.ChangeAt Go.RowKit
set_option maxRecDepth 100000
theorem said:Rows.ModelTextsSaid:=
 OpenClaim.holds_of_cond 3 Tryz.f3 rfl rfl rfl rfl rfl rfl rfl ⟨rfl,rfl,rfl,rfl,rfl⟩ rfl rfl rfl rfl rfl named Tryz.func3 closed inst wrap
  (fun os started H enc _ F=>by rw[OpenClaim.pre_eq_preRow];exact lifted os started H enc F)
theorem plain (f:FuncId)(fn:Func)(ab:Tryz.pinned.checked.prog.funcNamed Rows.modelTextsRow.func=some f)(im:Tryz.pinned.checked.prog.funcs[f]? =some fn):
  true=Tryz.pinned.checked.prog.looks []/\∀(j:Nat) t,fn.params[j]? =some t->Tryz.pinned.checked.prog.wantsStandIn t=false:=by
 obtain rfl:f=3:=rA (named.symm.trans ab) |>.symm
 obtain rfl:fn=Tryz.f3:=(rA (Tryz.func3.symm.trans im)).symm
 refine⟨looks,fun j t ht=> ?_⟩
 rw[Tryz.params3]at ht
 have:t∈[30,3,3,9]:=by simpa using Array.mem_of_getElem? ht
 have:=eV.1 asD t this
 exact Eq.trans (Bool.not_not _).symm (congrArg not this)
theorem card:Rows.ModelTextsCardSaid:=
 Claim7.holds_tied_plain_at .later [] _ _ _ _ said (fun _ h=>by cases h) asE (fun _ h=>by cases h) own.modelTexts_row_tie rfl ⟨rfl,rfl⟩ mainIs rfl plain asC
end Go.Proofs.YteocalfeoefeoaaGreatDoor.texting
