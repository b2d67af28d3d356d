/- Texts of this claim, joined and written short by a program. -/
import Derived.Test.YtgkcikhegodchaaGreatDoorP09
import Derived.Test.YtgkcikhegodchaaGreatDoorP01
import Derived.Test.YtgkcikhegodchaaGreatDoorCards
import Derived.WalkKit
import Derived.ProofKit
import Derived.OpenShut
import Derived.ChangeSlices
import Derived.ChangeStays
import Derived.SizedLaws
import Derived.Deep.DeepHandedRow
import Derived.Deep.DeepLaidRun
import Derived.Lib.LaidTab
import Derived.JoinedCond
import Derived.Test.YtgkcikhegodchaaGreatDoorP39
import Derived.Test.YtgkcikhegodchaaGreatDoorP55
import Derived.Test.YtgkcikhegodchaaGreatDoorP56
import Derived.Test.YtgkcikhegodchaaGreatDoorP57
import Derived.Test.YtgkcikhegodchaaGreatDoorP58
import Derived.Test.YtgkcikhegodchaaGreatDoorP59
import Derived.Test.YtgkcikhegodchaaGreatDoorP60
import Derived.Test.YtgkcikhegodchaaGreatDoorP61
import Derived.Test.YtgkcikhegodchaaGreatDoorP62
import Derived.SevenTiedAt
import Derived.Test.YtgkcikhegodchaaGreatDoorP00
set_option linter.unusedVariables false
set_option linter.unusedSimpArgs false
set_option linter.unusedSectionVars false
namespace Go.Proofs.YtgkcikhegodchaaGreatDoor.hiding
open Go Go.Abs Go.Abs.bA Go.Proofs Go.ChangeShapes Go.WideShapes Go.ChangeAt Go.RowKit
set_option maxRecDepth 100000
theorem named:Tryz.prog.funcNamed Rows.stateHidesRow.func=some 4:=by kernel_rfl
set_option maxHeartbeats 4000000 in
theorem closed:joinedFacts Tryz.prog 4 Tryz.f4 (OpenSpec.ofChange Rows.stateHidesSpec).bare Rows.stateHidesRow=true:=by
 unfold joinedFacts;simp only[cm];refine⟨⟨⟨⟨⟨⟨⟨⟨⟨⟨⟨⟨⟨⟨⟨⟨⟨⟨⟨⟨⟨⟨⟨⟨⟨⟨⟨⟨⟨⟨⟨?_,?_⟩,?_⟩,?_⟩,?_⟩,?_⟩,?_⟩,?_⟩,?_⟩,?_⟩,?_⟩,?_⟩,?_⟩,?_⟩,?_⟩,?_⟩,?_⟩,?_⟩,?_⟩,?_⟩,?_⟩,?_⟩,?_⟩,?_⟩,?_⟩,?_⟩,?_⟩,?_⟩,?_⟩,?_⟩,?_⟩,?_⟩
 ·as_aux_lemma=>kernel_rfl
 ·exact BR
 ·exact IK
 ·as_aux_lemma=>kernel_rfl
 ·as_aux_lemma=>kernel_rfl
 ·as_aux_lemma=>kernel_rfl
 ·as_aux_lemma=>kernel_rfl
 ·as_aux_lemma=>kernel_rfl
 ·as_aux_lemma=>kernel_rfl
 ·exact U8
 ·exact H7
 ·exact U9
 ·exact Va
 ·as_aux_lemma=>kernel_rfl
 ·as_aux_lemma=>kernel_rfl
 ·as_aux_lemma=>kernel_rfl
 ·exact H6
 ·as_aux_lemma=>kernel_rfl
 ·as_aux_lemma=>kernel_rfl
 ·as_aux_lemma=>kernel_rfl
 ·as_aux_lemma=>kernel_rfl
 ·as_aux_lemma=>kernel_rfl
 ·exact Vb
 ·as_aux_lemma=>kernel_rfl
 ·exact Vc
 ·exact Vd
 ·exact Ve
 ·exact Vf
 ·as_aux_lemma=>kernel_rfl
 ·as_aux_lemma=>kernel_rfl
 ·as_aux_lemma=>kernel_rfl
 ·as_aux_lemma=>kernel_rfl
theorem inst:Tryz.f4.isInstance Tryz.prog Rows.stateHidesRow.origin Rows.stateHidesRow.targs:=of_decide_eq_true (by kernel_rfl)
theorem wrap:Tryz.f4.isWrapper Tryz.prog Rows.stateHidesRow.wrapper Rows.stateHidesRow.mainSum:=by unfold Func.isWrapper;first|(rw[if_pos (by decide +kernel)];kernel_rfl)|(rw[if_neg (by decide +kernel)];exact⟨rfl,rfl⟩)
end Go.Proofs.YtgkcikhegodchaaGreatDoor.hiding
