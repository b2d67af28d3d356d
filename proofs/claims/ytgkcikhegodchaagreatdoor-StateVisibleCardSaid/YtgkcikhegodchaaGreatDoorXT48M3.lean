/- StateVisible: the card. -/
import Derived.Test.YtgkcikhegodchaaGreatDoorP38
import Derived.Test.YtgkcikhegodchaaGreatDoorP48
import Derived.Test.YtgkcikhegodchaaGreatDoorP49
import Derived.Test.YtgkcikhegodchaaGreatDoorP50
import Derived.Test.YtgkcikhegodchaaGreatDoorP51
import Derived.Test.YtgkcikhegodchaaGreatDoorP00
set_option linter.unusedVariables false
set_option linter.unusedSimpArgs false
set_option linter.unusedSectionVars false
namespace Go.Proofs.YtgkcikhegodchaaGreatDoor.seeing
open Go Go.Abs Go.Abs.bA Go.Proofs Go.ChangeShapes Go.WideShapes Go.ChangeAt Go.RowKit
set_option maxRecDepth 100000
theorem said:Rows.StateVisibleSaid:=
 OpenClaim.holds_of_cond 3 Tryz.f3 rfl rfl rfl rfl rfl rfl rfl ⟨rfl,rfl,rfl,rfl,rfl⟩ rfl rfl rfl rfl rfl named Tryz.func3 closed inst wrap
  (fun os started H enc _ F=>by rw[OpenClaim.pre_eq_preRow];exact lifted os started H enc F)
theorem plain (f:FuncId)(fn:Func)(ag:Tryz.pinned.checked.prog.funcNamed Rows.stateVisibleRow.func=some f)(hS:Tryz.pinned.checked.prog.funcs[f]? =some fn):
  true=Tryz.pinned.checked.prog.looks []/\∀(j:Nat) t,fn.params[j]? =some t->Tryz.pinned.checked.prog.wantsStandIn t=false:=by
 obtain rfl:f=3:=ra (named.symm.trans ag) |>.symm
 obtain rfl:fn=Tryz.f3:=(ra (Tryz.func3.symm.trans hS)).symm
 refine⟨looks,fun j t ht=> ?_⟩
 rw[Tryz.params3]at ht
 have:t∈[30,22]:=by simpa using Array.mem_of_getElem? ht
 have:=eE.1 Vi t this
 exact Eq.trans (Bool.not_not _).symm (congrArg not this)
theorem card:Rows.StateVisibleCardSaid:=
 Claim7.holds_tied_plain_at .later [] _ _ _ _ said (fun _ h=>by cases h) Vj (fun _ h=>by cases h) own.stateVisible_row_tie rfl ⟨rfl,rfl⟩ mainIs rfl plain Vh
end Go.Proofs.YtgkcikhegodchaaGreatDoor.seeing
