/- ModelReads: the card. -/
import Derived.Test.YtdiodnpdllkbaaaGreatDoorP39
import Derived.Test.YtdiodnpdllkbaaaGreatDoorP41
import Derived.Test.YtdiodnpdllkbaaaGreatDoorP42
import Derived.Test.YtdiodnpdllkbaaaGreatDoorP43
import Derived.Test.YtdiodnpdllkbaaaGreatDoorP44
import Derived.Test.YtdiodnpdllkbaaaGreatDoorP00
set_option linter.unusedVariables false
set_option linter.unusedSimpArgs false
set_option linter.unusedSectionVars false
namespace Go.Proofs.YtdiodnpdllkbaaaGreatDoor.reading
open Go Go.Abs Go.Abs.bw Go.Proofs Go.ChangeShapes Go.WideShapes Go.ChangeAt Go.RowKit
set_option maxRecDepth 100000
theorem said:Rows.ModelReadsSaid:=
 OpenClaim.holds_of_cond 3 Tryz.f3 rfl rfl rfl rfl rfl rfl rfl ⟨rfl,rfl,rfl,rfl,rfl⟩ rfl rfl rfl rfl rfl named Tryz.func3 closed inst wrap
  (fun os started H enc _ F=>by rw[OpenClaim.pre_eq_preRow];exact lifted os started H enc F)
theorem plain (f:FuncId)(fn:Func)(ab:Tryz.pinned.checked.prog.funcNamed Rows.modelReadsRow.func=some f)(im:Tryz.pinned.checked.prog.funcs[f]? =some fn):
  true=Tryz.pinned.checked.prog.looks []/\∀(j:Nat) t,fn.params[j]? =some t->Tryz.pinned.checked.prog.wantsStandIn t=false:=by
 obtain rfl:f=3:=rA (named.symm.trans ab) |>.symm
 obtain rfl:fn=Tryz.f3:=(rA (Tryz.func3.symm.trans im)).symm
 refine⟨looks,fun j t ht=> ?_⟩
 rw[Tryz.params3]at ht
 have:t∈[30,5]:=by simpa using Array.mem_of_getElem? ht
 have:=eV.1 asD t this
 exact Eq.trans (Bool.not_not _).symm (congrArg not this)
theorem card:Rows.ModelReadsCardSaid:=
 Claim7.holds_tied_plain_at .later [] _ _ _ _ said (fun _ h=>by cases h) asE (fun _ h=>by cases h) own.modelReads_row_tie rfl ⟨rfl,rfl⟩ mainIs rfl plain asC
end Go.Proofs.YtdiodnpdllkbaaaGreatDoor.reading
