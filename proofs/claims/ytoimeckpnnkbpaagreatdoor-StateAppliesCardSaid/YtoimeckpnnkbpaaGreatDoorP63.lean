/- Texts of this claim, joined and written short by a program. -/
import Derived.Test.YtoimeckpnnkbpaaGreatDoorP09
import Derived.Test.YtoimeckpnnkbpaaGreatDoorP01
import Derived.Test.YtoimeckpnnkbpaaGreatDoorCards
import Derived.WalkKit
import Derived.ProofKit
import Derived.OpenShut
import Derived.ChangeSlices
import Derived.ChangeStays
import Derived.SizedLaws
import Derived.Deep.DeepHandedRow
import Derived.Deep.DeepLaidRun
import Derived.Lib.LaidTab
import Derived.JoinedCond
import Derived.Test.YtoimeckpnnkbpaaGreatDoorP39
import Derived.Test.YtoimeckpnnkbpaaGreatDoorP55
import Derived.Test.YtoimeckpnnkbpaaGreatDoorP56
import Derived.Test.YtoimeckpnnkbpaaGreatDoorP57
import Derived.Test.YtoimeckpnnkbpaaGreatDoorP58
import Derived.Test.YtoimeckpnnkbpaaGreatDoorP59
import Derived.Test.YtoimeckpnnkbpaaGreatDoorP60
import Derived.Test.YtoimeckpnnkbpaaGreatDoorP61
import Derived.Test.YtoimeckpnnkbpaaGreatDoorP62
import Derived.SevenTiedAt
import Derived.Test.YtoimeckpnnkbpaaGreatDoorP00
set_option linter.unusedVariables false
set_option linter.unusedSimpArgs false
set_option linter.unusedSectionVars false
namespace Go.Proofs.YtoimeckpnnkbpaaGreatDoor.applying
open Go Go.Abs Go.Abs.hk Go.Proofs Go.ChangeShapes Go.WideShapes Go.ChangeAt Go.RowKit
set_option maxRecDepth 100000
theorem named:Tryz.prog.funcNamed Rows.stateAppliesRow.func=some 4:=by kernel_rfl
set_option maxHeartbeats 4000000 in
theorem closed:joinedFacts Tryz.prog 4 Tryz.f4 (OpenSpec.ofChange Rows.stateAppliesSpec).bare Rows.stateAppliesRow=true:=by
 unfold joinedFacts;simp only[b8];refine⟨⟨⟨⟨⟨⟨⟨⟨⟨⟨⟨⟨⟨⟨⟨⟨⟨⟨⟨⟨⟨⟨⟨⟨⟨⟨⟨⟨⟨⟨⟨?_,?_⟩,?_⟩,?_⟩,?_⟩,?_⟩,?_⟩,?_⟩,?_⟩,?_⟩,?_⟩,?_⟩,?_⟩,?_⟩,?_⟩,?_⟩,?_⟩,?_⟩,?_⟩,?_⟩,?_⟩,?_⟩,?_⟩,?_⟩,?_⟩,?_⟩,?_⟩,?_⟩,?_⟩,?_⟩,?_⟩,?_⟩
 ·as_aux_lemma=>kernel_rfl
 ·exact al0
 ·exact ic
 ·as_aux_lemma=>kernel_rfl
 ·as_aux_lemma=>kernel_rfl
 ·as_aux_lemma=>kernel_rfl
 ·as_aux_lemma=>kernel_rfl
 ·as_aux_lemma=>kernel_rfl
 ·as_aux_lemma=>kernel_rfl
 ·exact aj
 ·exact al2
 ·exact bw
 ·exact fo
 ·as_aux_lemma=>kernel_rfl
 ·as_aux_lemma=>kernel_rfl
 ·as_aux_lemma=>kernel_rfl
 ·exact alr
 ·as_aux_lemma=>kernel_rfl
 ·as_aux_lemma=>kernel_rfl
 ·as_aux_lemma=>kernel_rfl
 ·as_aux_lemma=>kernel_rfl
 ·as_aux_lemma=>kernel_rfl
 ·exact hv
 ·as_aux_lemma=>kernel_rfl
 ·exact hS
 ·exact hU
 ·exact jx
 ·exact lO
 ·as_aux_lemma=>kernel_rfl
 ·as_aux_lemma=>kernel_rfl
 ·as_aux_lemma=>kernel_rfl
 ·as_aux_lemma=>kernel_rfl
theorem inst:Tryz.f4.isInstance Tryz.prog Rows.stateAppliesRow.origin Rows.stateAppliesRow.targs:=of_decide_eq_true (by kernel_rfl)
theorem wrap:Tryz.f4.isWrapper Tryz.prog Rows.stateAppliesRow.wrapper Rows.stateAppliesRow.mainSum:=by unfold Func.isWrapper;first|(rw[if_pos (by decide +kernel)];kernel_rfl)|(rw[if_neg (by decide +kernel)];exact⟨rfl,rfl⟩)
end Go.Proofs.YtoimeckpnnkbpaaGreatDoor.applying
