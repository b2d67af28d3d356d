/- ModelSpoils: the card. -/
import Derived.Test.YtaenhebjdjpdgaaGreatDoorP39
import Derived.Test.YtaenhebjdjpdgaaGreatDoorP41
import Derived.Test.YtaenhebjdjpdgaaGreatDoorP42
import Derived.Test.YtaenhebjdjpdgaaGreatDoorP43
import Derived.Test.YtaenhebjdjpdgaaGreatDoorP44
import Derived.Test.YtaenhebjdjpdgaaGreatDoorP00
set_option linter.unusedVariables false
set_option linter.unusedSimpArgs false
set_option linter.unusedSectionVars false
namespace Go.Proofs.YtaenhebjdjpdgaaGreatDoor.spoiling
open Go Go.Abs Go.Abs.b1 Go.Proofs Go.ChangeShapes Go.WideShapes Go.ChangeAt Go.RowKit
set_option maxRecDepth 100000
theorem said : Rows.ModelSpoilsSaid :=
 OpenClaim.holds_of_cond 4 Tryz.f4 rfl rfl rfl rfl rfl rfl rfl ⟨rfl, rfl, rfl, rfl, rfl⟩ rfl rfl rfl rfl rfl named Tryz.func4 closed inst wrap
  (fun os started H enc _ F => by rw [OpenClaim.pre_eq_preRow]; exact lifted os started H enc F)
theorem plain (f : FuncId) (fn : Func) (ae : Tryz.pinned.checked.prog.funcNamed Rows.modelSpoilsRow.func = some f) (j4 : Tryz.pinned.checked.prog.funcs[f]? = some fn) :
  true = Tryz.pinned.checked.prog.looks [] /\ ∀ (j : Nat) t, fn.params[j]? = some t -> Tryz.pinned.checked.prog.wantsStandIn t = false := by
 obtain rfl : f = 4 := Bz (named.symm.trans ae) |>.symm
 obtain rfl : fn = Tryz.f4 := (Bz (Tryz.func4.symm.trans j4)).symm
 refine ⟨looks, fun j t ht => ?_⟩
 rw [Tryz.params4] at ht
 have : t ∈ [30, 5, 5] := by simpa using Array.mem_of_getElem? ht
 have := fo.1 aqJ t this
 exact Eq.trans (Bool.not_not _).symm (congrArg not this)
theorem card : Rows.ModelSpoilsCardSaid :=
 Claim7.holds_tied_plain_at .later [] _ _ _ _ said (fun _ h => by cases h) aqK (fun _ h => by cases h) own.modelSpoils_row_tie rfl ⟨rfl, rfl⟩ mainIs rfl plain aqI
end Go.Proofs.YtaenhebjdjpdgaaGreatDoor.spoiling
