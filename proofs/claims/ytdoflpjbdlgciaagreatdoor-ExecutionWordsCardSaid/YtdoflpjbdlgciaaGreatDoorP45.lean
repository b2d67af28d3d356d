/- Texts of this claim, joined and written short by a program. -/
import Derived.Test.YtdoflpjbdlgciaaGreatDoorP09
import Derived.Test.YtdoflpjbdlgciaaGreatDoorP01
import Derived.Test.YtdoflpjbdlgciaaGreatDoorCards
import Derived.WalkKit
import Derived.ProofKit
import Derived.OpenShut
import Derived.ChangeSlices
import Derived.ChangeStays
import Derived.SizedLaws
import Derived.Deep.DeepHandedRow
import Derived.Deep.DeepLaidRun
import Derived.Lib.LaidTab
import Derived.JoinedCond
import Derived.Test.YtdoflpjbdlgciaaGreatDoorP36
import Derived.Test.YtdoflpjbdlgciaaGreatDoorP37
import Derived.Test.YtdoflpjbdlgciaaGreatDoorP38
import Derived.Test.YtdoflpjbdlgciaaGreatDoorP39
import Derived.Test.YtdoflpjbdlgciaaGreatDoorP40
import Derived.Test.YtdoflpjbdlgciaaGreatDoorP41
import Derived.Test.YtdoflpjbdlgciaaGreatDoorP42
import Derived.Test.YtdoflpjbdlgciaaGreatDoorP43
import Derived.Test.YtdoflpjbdlgciaaGreatDoorP44
import Derived.SevenTiedAt
import Derived.Test.YtdoflpjbdlgciaaGreatDoorP00
set_option linter.unusedVariables false
set_option linter.unusedSimpArgs false
set_option linter.unusedSectionVars false
namespace Go.Proofs.YtdoflpjbdlgciaaGreatDoor.wording
open Go Go.Abs Go.Abs.bZ Go.Proofs Go.ChangeShapes Go.WideShapes Go.ChangeAt Go.RowKit
set_option maxRecDepth 100000
theorem named:Tryz.prog.funcNamed Rows.executionWordsRow.func=some 3:=by kernel_rfl
set_option maxHeartbeats 4000000 in
theorem closed:joinedFacts Tryz.prog 3 Tryz.f3 (OpenSpec.ofChange Rows.executionWordsSpec).bare Rows.executionWordsRow=true:=by
 unfold joinedFacts;simp only[ca];refine⟨⟨⟨⟨⟨⟨⟨⟨⟨⟨⟨⟨⟨⟨⟨⟨⟨⟨⟨⟨⟨⟨⟨⟨⟨⟨⟨⟨⟨⟨⟨?_,?_⟩,?_⟩,?_⟩,?_⟩,?_⟩,?_⟩,?_⟩,?_⟩,?_⟩,?_⟩,?_⟩,?_⟩,?_⟩,?_⟩,?_⟩,?_⟩,?_⟩,?_⟩,?_⟩,?_⟩,?_⟩,?_⟩,?_⟩,?_⟩,?_⟩,?_⟩,?_⟩,?_⟩,?_⟩,?_⟩,?_⟩
 ·as_aux_lemma=>kernel_rfl
 ·exact Sy
 ·exact aAt
 ·as_aux_lemma=>kernel_rfl
 ·as_aux_lemma=>kernel_rfl
 ·as_aux_lemma=>kernel_rfl
 ·as_aux_lemma=>kernel_rfl
 ·as_aux_lemma=>kernel_rfl
 ·as_aux_lemma=>kernel_rfl
 ·exact aAn
 ·exact Sz
 ·exact aAo
 ·exact aAp
 ·as_aux_lemma=>kernel_rfl
 ·as_aux_lemma=>kernel_rfl
 ·as_aux_lemma=>kernel_rfl
 ·exact So
 ·as_aux_lemma=>kernel_rfl
 ·as_aux_lemma=>kernel_rfl
 ·as_aux_lemma=>kernel_rfl
 ·as_aux_lemma=>kernel_rfl
 ·as_aux_lemma=>kernel_rfl
 ·exact aAq
 ·as_aux_lemma=>kernel_rfl
 ·exact aAr
 ·exact aAs
 ·exact aAu
 ·exact aAv
 ·as_aux_lemma=>kernel_rfl
 ·as_aux_lemma=>kernel_rfl
 ·as_aux_lemma=>kernel_rfl
 ·as_aux_lemma=>kernel_rfl
theorem inst:Tryz.f3.isInstance Tryz.prog Rows.executionWordsRow.origin Rows.executionWordsRow.targs:=of_decide_eq_true (by kernel_rfl)
theorem wrap:Tryz.f3.isWrapper Tryz.prog Rows.executionWordsRow.wrapper Rows.executionWordsRow.mainSum:=by unfold Func.isWrapper;first|(rw[if_pos (by decide +kernel)];kernel_rfl)|(rw[if_neg (by decide +kernel)];exact⟨rfl,rfl⟩)
end Go.Proofs.YtdoflpjbdlgciaaGreatDoor.wording
