/- ExecutionCommutes: the card. -/
import Derived.Test.YtjgngmpmjbkbpaaGreatDoorP45
import Derived.Test.YtjgngmpmjbkbpaaGreatDoorP47
import Derived.Test.YtjgngmpmjbkbpaaGreatDoorP48
import Derived.Test.YtjgngmpmjbkbpaaGreatDoorP49
import Derived.Test.YtjgngmpmjbkbpaaGreatDoorP50
import Derived.Test.YtjgngmpmjbkbpaaGreatDoorP00
set_option linter.unusedVariables false
set_option linter.unusedSimpArgs false
set_option linter.unusedSectionVars false
namespace Go.Proofs.YtjgngmpmjbkbpaaGreatDoor.commuting
open Go Go.Abs Go.Abs.U Go.Proofs Go.ChangeShapes Go.WideShapes Go.ChangeAt Go.RowKit
set_option maxRecDepth 100000
theorem said : Rows.ExecutionCommutesSaid :=
 OpenClaim.holds_of_cond 3 Tryz.f3 rfl rfl rfl rfl rfl rfl rfl ⟨rfl, rfl, rfl, rfl, rfl⟩ rfl rfl rfl rfl rfl named Tryz.func3 closed inst wrap
  (fun os started H enc _ F => by rw [OpenClaim.pre_eq_preRow]; exact lifted os started H enc F)
theorem plain (f : FuncId) (fn : Func) (ae : Tryz.pinned.checked.prog.funcNamed Rows.executionCommutesRow.func = some f) (j4 : Tryz.pinned.checked.prog.funcs[f]? = some fn) :
  true = Tryz.pinned.checked.prog.looks [] /\ ∀ (j : Nat) t, fn.params[j]? = some t -> Tryz.pinned.checked.prog.wantsStandIn t = false := by
 obtain rfl : f = 3 := Bz (named.symm.trans ae) |>.symm
 obtain rfl : fn = Tryz.f3 := (Bz (Tryz.func3.symm.trans j4)).symm
 refine ⟨looks, fun j t ht => ?_⟩
 rw [Tryz.params3] at ht
 have : t ∈ [30, 5, 5, 22] := by simpa using Array.mem_of_getElem? ht
 have := fo.1 aqJ t this
 exact Eq.trans (Bool.not_not _).symm (congrArg not this)
theorem card : Rows.ExecutionCommutesCardSaid :=
 Claim7.holds_tied_plain_at .later [] _ _ _ _ said (fun _ h => by cases h) aqK (fun _ h => by cases h) own.executionCommutes_row_tie rfl ⟨rfl, rfl⟩ mainIs rfl plain aqI
end Go.Proofs.YtjgngmpmjbkbpaaGreatDoor.commuting
