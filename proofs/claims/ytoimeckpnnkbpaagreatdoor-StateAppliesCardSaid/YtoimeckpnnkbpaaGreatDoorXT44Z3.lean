/- StateApplies: the card. -/
import Derived.Test.YtoimeckpnnkbpaaGreatDoorP54
import Derived.Test.YtoimeckpnnkbpaaGreatDoorP63
import Derived.Test.YtoimeckpnnkbpaaGreatDoorP64
import Derived.Test.YtoimeckpnnkbpaaGreatDoorP65
import Derived.Test.YtoimeckpnnkbpaaGreatDoorP66
import Derived.Test.YtoimeckpnnkbpaaGreatDoorP00
set_option linter.unusedVariables false
set_option linter.unusedSimpArgs false
set_option linter.unusedSectionVars false
namespace Go.Proofs.YtoimeckpnnkbpaaGreatDoor.applying
open Go Go.Abs Go.Abs.hk Go.Proofs Go.ChangeShapes Go.WideShapes Go.ChangeAt Go.RowKit
set_option maxRecDepth 100000
theorem said:Rows.StateAppliesSaid:=
 OpenClaim.holds_of_cond 4 Tryz.f4 rfl rfl rfl rfl rfl rfl rfl ⟨rfl,rfl,rfl,rfl,rfl⟩ rfl rfl rfl rfl rfl named Tryz.func4 closed inst wrap
  (fun os started H enc _ F=>by rw[OpenClaim.pre_eq_preRow];exact lifted os started H enc F)
theorem plain (f:FuncId)(fn:Func)(ab:Tryz.pinned.checked.prog.funcNamed Rows.stateAppliesRow.func=some f)(im:Tryz.pinned.checked.prog.funcs[f]? =some fn):
  true=Tryz.pinned.checked.prog.looks []/\∀(j:Nat) t,fn.params[j]? =some t->Tryz.pinned.checked.prog.wantsStandIn t=false:=by
 obtain rfl:f=4:=rA (named.symm.trans ab) |>.symm
 obtain rfl:fn=Tryz.f4:=(rA (Tryz.func4.symm.trans im)).symm
 refine⟨looks,fun j t ht=> ?_⟩
 rw[Tryz.params4]at ht
 have:t∈[22,38]:=by simpa using Array.mem_of_getElem? ht
 have:=eV.1 asD t this
 exact Eq.trans (Bool.not_not _).symm (congrArg not this)
theorem card:Rows.StateAppliesCardSaid:=
 Claim7.holds_tied_plain_at .later [] _ _ _ _ said (fun _ h=>by cases h) asE (fun _ h=>by cases h) own.stateApplies_row_tie rfl ⟨rfl,rfl⟩ mainIs rfl plain asC
end Go.Proofs.YtoimeckpnnkbpaaGreatDoor.applying
