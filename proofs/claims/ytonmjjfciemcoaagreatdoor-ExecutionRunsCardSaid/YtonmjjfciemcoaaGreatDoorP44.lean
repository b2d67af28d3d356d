/- Texts of this claim, joined and written short by a program. -/
import Derived.Test.YtonmjjfciemcoaaGreatDoorP09
import Derived.Test.YtonmjjfciemcoaaGreatDoorP01
import Derived.Test.YtonmjjfciemcoaaGreatDoorCards
import Derived.WalkKit
import Derived.ProofKit
import Derived.OpenShut
import Derived.ChangeSlices
import Derived.ChangeStays
import Derived.SizedLaws
import Derived.Deep.DeepHandedRow
import Derived.Deep.DeepLaidRun
import Derived.Lib.LaidTab
import Derived.JoinedCond
import Derived.Test.YtonmjjfciemcoaaGreatDoorP35
import Derived.Test.YtonmjjfciemcoaaGreatDoorP36
import Derived.Test.YtonmjjfciemcoaaGreatDoorP37
import Derived.Test.YtonmjjfciemcoaaGreatDoorP38
import Derived.Test.YtonmjjfciemcoaaGreatDoorP39
import Derived.Test.YtonmjjfciemcoaaGreatDoorP40
import Derived.Test.YtonmjjfciemcoaaGreatDoorP41
import Derived.Test.YtonmjjfciemcoaaGreatDoorP42
import Derived.Test.YtonmjjfciemcoaaGreatDoorP43
import Derived.SevenTiedAt
import Derived.Test.YtonmjjfciemcoaaGreatDoorP00
set_option linter.unusedVariables false
set_option linter.unusedSimpArgs false
set_option linter.unusedSectionVars false
namespace Go.Proofs.YtonmjjfciemcoaaGreatDoor.running
open Go Go.Abs Go.Abs.hk Go.Proofs Go.ChangeShapes Go.WideShapes Go.ChangeAt Go.RowKit
set_option maxRecDepth 100000
theorem named:Tryz.prog.funcNamed Rows.executionRunsRow.func=some 4:=by kernel_rfl
set_option maxHeartbeats 4000000 in
theorem closed:joinedFacts Tryz.prog 4 Tryz.f4 (OpenSpec.ofChange Rows.executionRunsSpec).bare Rows.executionRunsRow=true:=by
 unfold joinedFacts;simp only[b8];refine⟨⟨⟨⟨⟨⟨⟨⟨⟨⟨⟨⟨⟨⟨⟨⟨⟨⟨⟨⟨⟨⟨⟨⟨⟨⟨⟨⟨⟨⟨⟨?_,?_⟩,?_⟩,?_⟩,?_⟩,?_⟩,?_⟩,?_⟩,?_⟩,?_⟩,?_⟩,?_⟩,?_⟩,?_⟩,?_⟩,?_⟩,?_⟩,?_⟩,?_⟩,?_⟩,?_⟩,?_⟩,?_⟩,?_⟩,?_⟩,?_⟩,?_⟩,?_⟩,?_⟩,?_⟩,?_⟩,?_⟩
 ·as_aux_lemma=>kernel_rfl
 ·exact al0
 ·exact ic
 ·as_aux_lemma=>kernel_rfl
 ·as_aux_lemma=>kernel_rfl
 ·as_aux_lemma=>kernel_rfl
 ·as_aux_lemma=>kernel_rfl
 ·as_aux_lemma=>kernel_rfl
 ·as_aux_lemma=>kernel_rfl
 ·exact aj
 ·exact al2
 ·exact bw
 ·exact fo
 ·as_aux_lemma=>kernel_rfl
 ·as_aux_lemma=>kernel_rfl
 ·as_aux_lemma=>kernel_rfl
 ·exact alr
 ·as_aux_lemma=>kernel_rfl
 ·as_aux_lemma=>kernel_rfl
 ·as_aux_lemma=>kernel_rfl
 ·as_aux_lemma=>kernel_rfl
 ·as_aux_lemma=>kernel_rfl
 ·exact hv
 ·as_aux_lemma=>kernel_rfl
 ·exact hS
 ·exact hU
 ·exact jx
 ·exact lO
 ·as_aux_lemma=>kernel_rfl
 ·as_aux_lemma=>kernel_rfl
 ·as_aux_lemma=>kernel_rfl
 ·as_aux_lemma=>kernel_rfl
theorem inst:Tryz.f4.isInstance Tryz.prog Rows.executionRunsRow.origin Rows.executionRunsRow.targs:=of_decide_eq_true (by kernel_rfl)
theorem wrap:Tryz.f4.isWrapper Tryz.prog Rows.executionRunsRow.wrapper Rows.executionRunsRow.mainSum:=by unfold Func.isWrapper;first|(rw[if_pos (by decide +kernel)];kernel_rfl)|(rw[if_neg (by decide +kernel)];exact⟨rfl,rfl⟩)
end Go.Proofs.YtonmjjfciemcoaaGreatDoor.running
