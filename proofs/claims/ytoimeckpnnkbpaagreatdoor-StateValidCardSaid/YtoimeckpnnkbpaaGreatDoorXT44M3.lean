/- StateValid: the card. -/
import Derived.Test.YtoimeckpnnkbpaaGreatDoorP38
import Derived.Test.YtoimeckpnnkbpaaGreatDoorP48
import Derived.Test.YtoimeckpnnkbpaaGreatDoorP49
import Derived.Test.YtoimeckpnnkbpaaGreatDoorP50
import Derived.Test.YtoimeckpnnkbpaaGreatDoorP51
import Derived.Test.YtoimeckpnnkbpaaGreatDoorP00
set_option linter.unusedVariables false
set_option linter.unusedSimpArgs false
set_option linter.unusedSectionVars false
namespace Go.Proofs.YtoimeckpnnkbpaaGreatDoor.standing
open Go Go.Abs Go.Abs.hk Go.Proofs Go.ChangeShapes Go.WideShapes Go.ChangeAt Go.RowKit
set_option maxRecDepth 100000
theorem said:Rows.StateValidSaid:=
 OpenClaim.holds_of_cond 3 Tryz.f3 rfl rfl rfl rfl rfl rfl rfl ⟨rfl,rfl,rfl,rfl,rfl⟩ rfl rfl rfl rfl rfl named Tryz.func3 closed inst wrap
  (fun os started H enc _ F=>by rw[OpenClaim.pre_eq_preRow];exact lifted os started H enc F)
theorem plain (f:FuncId)(fn:Func)(ab:Tryz.pinned.checked.prog.funcNamed Rows.stateValidRow.func=some f)(im:Tryz.pinned.checked.prog.funcs[f]? =some fn):
  true=Tryz.pinned.checked.prog.looks []/\∀(j:Nat) t,fn.params[j]? =some t->Tryz.pinned.checked.prog.wantsStandIn t=false:=by
 obtain rfl:f=3:=rA (named.symm.trans ab) |>.symm
 obtain rfl:fn=Tryz.f3:=(rA (Tryz.func3.symm.trans im)).symm
 refine⟨looks,fun j t ht=> ?_⟩
 rw[Tryz.params3]at ht
 have:t∈[30,22]:=by simpa using Array.mem_of_getElem? ht
 have:=eV.1 asD t this
 exact Eq.trans (Bool.not_not _).symm (congrArg not this)
theorem card:Rows.StateValidCardSaid:=
 Claim7.holds_tied_plain_at .later [] _ _ _ _ said (fun _ h=>by cases h) asE (fun _ h=>by cases h) own.stateValid_row_tie rfl ⟨rfl,rfl⟩ mainIs rfl plain asC
end Go.Proofs.YtoimeckpnnkbpaaGreatDoor.standing
