/- Texts of this claim, joined and written short by a program. -/
import Derived.Test.YtemakagmboeodaaGreatDoorP09
import Derived.Test.YtemakagmboeodaaGreatDoorP01
import Derived.Test.YtemakagmboeodaaGreatDoorCards
import Derived.WalkKit
import Derived.ProofKit
import Derived.OpenShut
import Derived.ChangeSlices
import Derived.ChangeStays
import Derived.SizedLaws
import Derived.Deep.DeepHandedRow
import Derived.Deep.DeepLaidRun
import Derived.Lib.LaidTab
import Derived.JoinedCond
import Derived.Test.YtemakagmboeodaaGreatDoorP31
import Derived.Test.YtemakagmboeodaaGreatDoorP32
import Derived.Test.YtemakagmboeodaaGreatDoorP33
import Derived.Test.YtemakagmboeodaaGreatDoorP34
import Derived.Test.YtemakagmboeodaaGreatDoorP35
import Derived.Test.YtemakagmboeodaaGreatDoorP36
import Derived.Test.YtemakagmboeodaaGreatDoorP37
import Derived.Test.YtemakagmboeodaaGreatDoorP38
import Derived.Test.YtemakagmboeodaaGreatDoorP39
import Derived.SevenTiedAt
import Derived.Test.YtemakagmboeodaaGreatDoorP00
set_option linter.unusedVariables false
set_option linter.unusedSimpArgs false
set_option linter.unusedSectionVars false
namespace Go.Proofs.YtemakagmboeodaaGreatDoor.adding
open Go Go.Abs Go.Abs.cb Go.Proofs Go.ChangeShapes Go.WideShapes Go.ChangeAt Go.RowKit
set_option maxRecDepth 100000
theorem named:Tryz.prog.funcNamed Rows.effectSumsRow.func=some 3:=by kernel_rfl
set_option maxHeartbeats 4000000 in
theorem closed:joinedFacts Tryz.prog 3 Tryz.f3 (OpenSpec.ofChange Rows.effectSumsSpec).bare Rows.effectSumsRow=true:=by
 unfold joinedFacts;simp only[cH];refine⟨⟨⟨⟨⟨⟨⟨⟨⟨⟨⟨⟨⟨⟨⟨⟨⟨⟨⟨⟨⟨⟨⟨⟨⟨⟨⟨⟨⟨⟨⟨?_,?_⟩,?_⟩,?_⟩,?_⟩,?_⟩,?_⟩,?_⟩,?_⟩,?_⟩,?_⟩,?_⟩,?_⟩,?_⟩,?_⟩,?_⟩,?_⟩,?_⟩,?_⟩,?_⟩,?_⟩,?_⟩,?_⟩,?_⟩,?_⟩,?_⟩,?_⟩,?_⟩,?_⟩,?_⟩,?_⟩,?_⟩
 ·as_aux_lemma=>kernel_rfl
 ·exact IB
 ·exact ID
 ·as_aux_lemma=>kernel_rfl
 ·as_aux_lemma=>kernel_rfl
 ·as_aux_lemma=>kernel_rfl
 ·as_aux_lemma=>kernel_rfl
 ·as_aux_lemma=>kernel_rfl
 ·as_aux_lemma=>kernel_rfl
 ·exact ahP
 ·exact ahQ
 ·exact ahR
 ·exact ahS
 ·as_aux_lemma=>kernel_rfl
 ·as_aux_lemma=>kernel_rfl
 ·as_aux_lemma=>kernel_rfl
 ·exact ahW
 ·as_aux_lemma=>kernel_rfl
 ·as_aux_lemma=>kernel_rfl
 ·as_aux_lemma=>kernel_rfl
 ·as_aux_lemma=>kernel_rfl
 ·as_aux_lemma=>kernel_rfl
 ·exact ahT
 ·as_aux_lemma=>kernel_rfl
 ·exact ahU
 ·exact ahV
 ·exact ahX
 ·exact ahY
 ·as_aux_lemma=>kernel_rfl
 ·as_aux_lemma=>kernel_rfl
 ·as_aux_lemma=>kernel_rfl
 ·as_aux_lemma=>kernel_rfl
theorem inst:Tryz.f3.isInstance Tryz.prog Rows.effectSumsRow.origin Rows.effectSumsRow.targs:=of_decide_eq_true (by kernel_rfl)
theorem wrap:Tryz.f3.isWrapper Tryz.prog Rows.effectSumsRow.wrapper Rows.effectSumsRow.mainSum:=by unfold Func.isWrapper;first|(rw[if_pos (by decide +kernel)];kernel_rfl)|(rw[if_neg (by decide +kernel)];exact⟨rfl,rfl⟩)
end Go.Proofs.YtemakagmboeodaaGreatDoor.adding
