/- ConstraintHolds: the card. -/
import Derived.Test.YtklgjajhccjbjaaGreatDoorP20
import Derived.Test.YtklgjajhccjbjaaGreatDoorP22
import Derived.Test.YtklgjajhccjbjaaGreatDoorP23
import Derived.Test.YtklgjajhccjbjaaGreatDoorP24
import Derived.Test.YtklgjajhccjbjaaGreatDoorP25
set_option linter.unusedVariables false
set_option linter.unusedSimpArgs false
namespace Go.Proofs.YtklgjajhccjbjaaGreatDoor.holding
open Go Go.Abs Go.Abs.T12 Go.Proofs Go.ChangeShapes Go.WideShapes Go.ChangeAt Go.RowKit
set_option maxRecDepth 100000
theorem said : Rows.ConstraintHoldsSaid :=
  OpenClaim.holds_of_cond 3 Tryz.f3 rfl rfl rfl rfl rfl rfl rfl ⟨rfl, rfl, rfl, rfl, rfl⟩ rfl rfl rfl rfl rfl named Tryz.func3 closed inst wrap
    (fun os started H enc _ F => by rw [OpenClaim.pre_eq_preRow]; exact lifted os started H enc F)

theorem plain (f : FuncId) (fn : Func) (hf : Tryz.pinned.checked.prog.funcNamed Rows.constraintHoldsRow.func = some f) (hfn : Tryz.pinned.checked.prog.funcs[f]? = some fn) :
    true = Tryz.pinned.checked.prog.looks [] ∧ ∀ (j : Nat) t, fn.params[j]? = some t → Tryz.pinned.checked.prog.wantsStandIn t = false := by
  obtain rfl : f = 3 := Option.some.inj (named.symm.trans hf) |>.symm
  obtain rfl : fn = Tryz.f3 := (Option.some.inj (Tryz.func3.symm.trans hfn)).symm
  refine ⟨looks, fun j t ht => ?_⟩
  rw [Tryz.params3] at ht
  have : t ∈ [26, 27] := by simpa using Array.mem_of_getElem? ht
  have := List.all_eq_true.1 standFree t this
  exact Eq.trans (Bool.not_not _).symm (congrArg not this)

theorem card : Rows.ConstraintHoldsCardSaid :=
  Claim7.holds_tied_plain_at .later [] _ _ _ _ said (fun _ h => by cases h) wfText (fun _ h => by cases h) own.constraintHolds_row_tie rfl ⟨rfl, rfl⟩ mainIs rfl plain goesNot
end Go.Proofs.YtklgjajhccjbjaaGreatDoor.holding
