/- Texts of this claim, joined and written short by a program. -/
import Derived.Test.YtaenhebjdjpdgaaGreatDoorP37
import Derived.JoinedCond
import Derived.Test.YtaenhebjdjpdgaaGreatDoorP40
import Derived.SevenTiedAt
import Derived.Test.YtaenhebjdjpdgaaGreatDoorP00
set_option linter.unusedVariables false
set_option linter.unusedSimpArgs false
set_option linter.unusedSectionVars false
namespace Go.Proofs.YtaenhebjdjpdgaaGreatDoor.spoiling
open Go Go.Abs Go.Abs.b1 Go.Proofs Go.ChangeShapes Go.WideShapes Go.ChangeAt Go.RowKit
set_option maxRecDepth 100000
theorem named : Tryz.prog.funcNamed Rows.modelSpoilsRow.func = some 4 := by kernel_rfl
set_option maxHeartbeats 4000000 in
theorem closed : joinedFacts Tryz.prog 4 Tryz.f4 (OpenSpec.ofChange Rows.modelSpoilsSpec).bare Rows.modelSpoilsRow = true := by
 unfold joinedFacts
 simp only [cd]
 refine ⟨⟨⟨⟨⟨⟨⟨⟨⟨⟨⟨⟨⟨⟨⟨⟨⟨⟨⟨⟨⟨⟨⟨⟨⟨⟨⟨⟨⟨⟨⟨?_, ?_⟩, ?_⟩, ?_⟩, ?_⟩, ?_⟩, ?_⟩, ?_⟩, ?_⟩, ?_⟩, ?_⟩, ?_⟩, ?_⟩, ?_⟩, ?_⟩, ?_⟩, ?_⟩, ?_⟩, ?_⟩, ?_⟩, ?_⟩, ?_⟩, ?_⟩, ?_⟩, ?_⟩, ?_⟩, ?_⟩, ?_⟩, ?_⟩, ?_⟩, ?_⟩, ?_⟩ <;> as_aux_lemma => kernel_rfl
theorem inst : Tryz.f4.isInstance Tryz.prog Rows.modelSpoilsRow.origin Rows.modelSpoilsRow.targs := of_decide_eq_true (by kernel_rfl)
theorem wrap : Tryz.f4.isWrapper Tryz.prog Rows.modelSpoilsRow.wrapper Rows.modelSpoilsRow.mainSum := by unfold Func.isWrapper; first | (rw [if_pos (by decide +kernel)]; kernel_rfl) | (rw [if_neg (by decide +kernel)]; exact ⟨rfl, rfl⟩)
end Go.Proofs.YtaenhebjdjpdgaaGreatDoor.spoiling
