/- ConstraintCycles: the card. -/
import Derived.Test.YtklgjajhccjbjaaGreatDoorP16
import Derived.Test.YtklgjajhccjbjaaGreatDoorP18
import Derived.Test.YtklgjajhccjbjaaGreatDoorP19
import Derived.Test.YtklgjajhccjbjaaGreatDoorP20
import Derived.Test.YtklgjajhccjbjaaGreatDoorP21
set_option linter.unusedVariables false
set_option linter.unusedSimpArgs false
namespace Go.Proofs.YtklgjajhccjbjaaGreatDoor.cycles
open Go Go.Abs Go.Abs.T12 Go.Proofs Go.ChangeShapes Go.WideShapes Go.ChangeAt Go.RowKit
set_option maxRecDepth 100000
theorem said : Rows.ConstraintCyclesSaid :=
  OpenClaim.holds_of_cond 4 Tryz.f4 rfl rfl rfl rfl rfl rfl rfl ⟨rfl, rfl, rfl, rfl, rfl⟩ rfl rfl rfl rfl rfl named Tryz.func4 closed inst wrap
    (fun os started H enc _ F => by rw [OpenClaim.pre_eq_preRow]; exact lifted os started H enc F)

theorem plain (f : FuncId) (fn : Func) (hf : Tryz.pinned.checked.prog.funcNamed Rows.constraintCyclesRow.func = some f) (hfn : Tryz.pinned.checked.prog.funcs[f]? = some fn) :
    true = Tryz.pinned.checked.prog.looks [] ∧ ∀ (j : Nat) t, fn.params[j]? = some t → Tryz.pinned.checked.prog.wantsStandIn t = false := by
  obtain rfl : f = 4 := Option.some.inj (named.symm.trans hf) |>.symm
  obtain rfl : fn = Tryz.f4 := (Option.some.inj (Tryz.func4.symm.trans hfn)).symm
  refine ⟨looks, fun j t ht => ?_⟩
  rw [Tryz.params4] at ht
  have : t ∈ [5, 34, 5, 5] := by simpa using Array.mem_of_getElem? ht
  have := List.all_eq_true.1 standFree t this
  exact Eq.trans (Bool.not_not _).symm (congrArg not this)

theorem card : Rows.ConstraintCyclesCardSaid :=
  Claim7.holds_tied_plain_at .later [] _ _ _ _ said (fun _ h => by cases h) wfText (fun _ h => by cases h) own.constraintCycles_row_tie rfl ⟨rfl, rfl⟩ mainIs rfl plain goesNot
end Go.Proofs.YtklgjajhccjbjaaGreatDoor.cycles
