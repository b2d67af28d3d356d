/- Texts of this claim, joined and written short by a program. -/
import Derived.Test.YtonmjjfciemcoaaGreatDoorP09
import Derived.Test.YtonmjjfciemcoaaGreatDoorP01
import Derived.Test.YtonmjjfciemcoaaGreatDoorCards
import Derived.WalkKit
import Derived.ProofKit
import Derived.OpenShut
import Derived.ChangeSlices
import Derived.ChangeStays
import Derived.SizedLaws
import Derived.Deep.DeepHandedRow
import Derived.Deep.DeepLaidRun
import Derived.Lib.LaidTab
import Derived.JoinedCond
import Derived.Test.YtonmjjfciemcoaaGreatDoorP36
import Derived.Test.YtonmjjfciemcoaaGreatDoorP53
import Derived.Test.YtonmjjfciemcoaaGreatDoorP54
import Derived.Test.YtonmjjfciemcoaaGreatDoorP55
import Derived.Test.YtonmjjfciemcoaaGreatDoorP56
import Derived.Test.YtonmjjfciemcoaaGreatDoorP57
import Derived.Test.YtonmjjfciemcoaaGreatDoorP58
import Derived.Test.YtonmjjfciemcoaaGreatDoorP59
import Derived.Test.YtonmjjfciemcoaaGreatDoorP60
import Derived.SevenTiedAt
import Derived.Test.YtonmjjfciemcoaaGreatDoorP00
set_option linter.unusedVariables false
set_option linter.unusedSimpArgs false
set_option linter.unusedSectionVars false
namespace Go.Proofs.YtonmjjfciemcoaaGreatDoor.lessening
open Go Go.Abs Go.Abs.bz Go.Proofs Go.ChangeShapes Go.WideShapes Go.ChangeAt Go.RowKit
set_option maxRecDepth 100000
theorem named:Tryz.prog.funcNamed Rows.executionLessRow.func=some 6:=by kernel_rfl
set_option maxHeartbeats 4000000 in
theorem closed:joinedFacts Tryz.prog 6 Tryz.f6 (OpenSpec.ofChange Rows.executionLessSpec).bare Rows.executionLessRow=true:=by
 unfold joinedFacts;simp only[b6];refine⟨⟨⟨⟨⟨⟨⟨⟨⟨⟨⟨⟨⟨⟨⟨⟨⟨⟨⟨⟨⟨⟨⟨⟨⟨⟨⟨⟨⟨⟨⟨?_,?_⟩,?_⟩,?_⟩,?_⟩,?_⟩,?_⟩,?_⟩,?_⟩,?_⟩,?_⟩,?_⟩,?_⟩,?_⟩,?_⟩,?_⟩,?_⟩,?_⟩,?_⟩,?_⟩,?_⟩,?_⟩,?_⟩,?_⟩,?_⟩,?_⟩,?_⟩,?_⟩,?_⟩,?_⟩,?_⟩,?_⟩
 ·as_aux_lemma=>kernel_rfl
 ·exact xE
 ·exact Cz
 ·as_aux_lemma=>kernel_rfl
 ·as_aux_lemma=>kernel_rfl
 ·as_aux_lemma=>kernel_rfl
 ·as_aux_lemma=>kernel_rfl
 ·as_aux_lemma=>kernel_rfl
 ·as_aux_lemma=>kernel_rfl
 ·exact VZ
 ·exact I3
 ·exact V0
 ·exact V1
 ·as_aux_lemma=>kernel_rfl
 ·as_aux_lemma=>kernel_rfl
 ·as_aux_lemma=>kernel_rfl
 ·exact I2
 ·as_aux_lemma=>kernel_rfl
 ·as_aux_lemma=>kernel_rfl
 ·as_aux_lemma=>kernel_rfl
 ·as_aux_lemma=>kernel_rfl
 ·as_aux_lemma=>kernel_rfl
 ·exact V2
 ·as_aux_lemma=>kernel_rfl
 ·exact V3
 ·exact V4
 ·exact V5
 ·exact V6
 ·as_aux_lemma=>kernel_rfl
 ·as_aux_lemma=>kernel_rfl
 ·as_aux_lemma=>kernel_rfl
 ·as_aux_lemma=>kernel_rfl
theorem inst:Tryz.f6.isInstance Tryz.prog Rows.executionLessRow.origin Rows.executionLessRow.targs:=of_decide_eq_true (by kernel_rfl)
theorem wrap:Tryz.f6.isWrapper Tryz.prog Rows.executionLessRow.wrapper Rows.executionLessRow.mainSum:=by unfold Func.isWrapper;first|(rw[if_pos (by decide +kernel)];kernel_rfl)|(rw[if_neg (by decide +kernel)];exact⟨rfl,rfl⟩)
end Go.Proofs.YtonmjjfciemcoaaGreatDoor.lessening
