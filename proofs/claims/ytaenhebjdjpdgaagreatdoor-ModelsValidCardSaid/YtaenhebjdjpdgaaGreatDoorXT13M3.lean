/- ModelsValid: the card. -/
import Derived.Test.YtaenhebjdjpdgaaGreatDoorP39
import Derived.Test.YtaenhebjdjpdgaaGreatDoorP41
import Derived.Test.YtaenhebjdjpdgaaGreatDoorP42
import Derived.Test.YtaenhebjdjpdgaaGreatDoorP43
import Derived.Test.YtaenhebjdjpdgaaGreatDoorP44
import Derived.Test.YtaenhebjdjpdgaaGreatDoorP00
set_option linter.unusedVariables false
set_option linter.unusedSimpArgs false
namespace Go.Proofs.YtaenhebjdjpdgaaGreatDoor.validating
open Go Go.Abs Go.Abs.b1 Go.Proofs Go.ChangeShapes Go.WideShapes Go.ChangeAt Go.RowKit
set_option maxRecDepth 100000
theorem said : Rows.ModelsValidSaid :=
 OpenClaim.holds_of_cond 3 Tryz.f3 rfl rfl rfl rfl rfl rfl rfl ⟨rfl, rfl, rfl, rfl, rfl⟩ rfl rfl rfl rfl rfl named Tryz.func3 closed inst wrap
  (fun os started H enc _ F => by rw [OpenClaim.pre_eq_preRow]; exact lifted os started H enc F)
theorem plain (f : FuncId) (fn : Func) (ae : Tryz.pinned.checked.prog.funcNamed Rows.modelsValidRow.func = some f) (j4 : Tryz.pinned.checked.prog.funcs[f]? = some fn) :
  true = Tryz.pinned.checked.prog.looks [] /\ ∀ (j : Nat) t, fn.params[j]? = some t -> Tryz.pinned.checked.prog.wantsStandIn t = false := by
 obtain rfl : f = 3 := Bz (named.symm.trans ae) |>.symm
 obtain rfl : fn = Tryz.f3 := (Bz (Tryz.func3.symm.trans j4)).symm
 refine ⟨looks, fun j t ht => ?_⟩
 rw [Tryz.params3] at ht
 have : t ∈ [30] := by simpa using Array.mem_of_getElem? ht
 have := fo.1 aqJ t this
 exact Eq.trans (Bool.not_not _).symm (congrArg not this)
theorem card : Rows.ModelsValidCardSaid :=
 Claim7.holds_tied_plain_at .later [] _ _ _ _ said (fun _ h => by cases h) aqK (fun _ h => by cases h) own.modelsValid_row_tie rfl ⟨rfl, rfl⟩ mainIs rfl plain aqI
end Go.Proofs.YtaenhebjdjpdgaaGreatDoor.validating
