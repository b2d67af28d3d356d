/- Texts of this claim, joined and written short by a program. -/
import Derived.Test.YtgkcikhegodchaaGreatDoorS09
import Derived.Test.YtgkcikhegodchaaGreatDoorS01
import Derived.Test.YtgkcikhegodchaaGreatDoorCards
import Derived.WalkKit
import Derived.ProofKit
import Derived.OpenShut
import Derived.ChangeSlices
import Derived.ChangeStays
import Derived.SizedLaws
import Derived.Deep.DeepHandedRow
import Derived.Deep.DeepLaidRun
import Derived.Lib.LaidTab
import Derived.JoinedCond
import Derived.Test.YtgkcikhegodchaaGreatDoorS39
import Derived.Test.YtgkcikhegodchaaGreatDoorS40
import Derived.Test.YtgkcikhegodchaaGreatDoorS41
import Derived.Test.YtgkcikhegodchaaGreatDoorS42
import Derived.Test.YtgkcikhegodchaaGreatDoorS43
import Derived.Test.YtgkcikhegodchaaGreatDoorS44
import Derived.Test.YtgkcikhegodchaaGreatDoorS45
import Derived.Test.YtgkcikhegodchaaGreatDoorS46
import Derived.Test.YtgkcikhegodchaaGreatDoorS47
import Derived.SevenTiedAt
import Derived.Test.YtgkcikhegodchaaGreatDoorS00
set_option linter.unusedVariables false
set_option linter.unusedSimpArgs false
set_option linter.unusedSectionVars false
namespace Go.Proofs.YtgkcikhegodchaaGreatDoor.summing
open Go Go.Abs Go.Abs.bs Go.Proofs Go.ChangeShapes Go.WideShapes Go.ChangeAt Go.RowKit
set_option maxRecDepth 100000
theorem named:Tryz.prog.funcNamed Rows.stateSumsRow.func=some 5:=by kernel_rfl
set_option maxHeartbeats 4000000 in
theorem closed:joinedFacts Tryz.prog 5 Tryz.f5 (OpenSpec.ofChange Rows.stateSumsSpec).bare Rows.stateSumsRow=true:=by
 unfold joinedFacts;simp only[cn];refine⟨⟨⟨⟨⟨⟨⟨⟨⟨⟨⟨⟨⟨⟨⟨⟨⟨⟨⟨⟨⟨⟨⟨⟨⟨⟨⟨⟨⟨⟨⟨?_,?_⟩,?_⟩,?_⟩,?_⟩,?_⟩,?_⟩,?_⟩,?_⟩,?_⟩,?_⟩,?_⟩,?_⟩,?_⟩,?_⟩,?_⟩,?_⟩,?_⟩,?_⟩,?_⟩,?_⟩,?_⟩,?_⟩,?_⟩,?_⟩,?_⟩,?_⟩,?_⟩,?_⟩,?_⟩,?_⟩,?_⟩
 ·as_aux_lemma=>kernel_rfl
 ·exact GS
 ·exact L4
 ·as_aux_lemma=>kernel_rfl
 ·as_aux_lemma=>kernel_rfl
 ·as_aux_lemma=>kernel_rfl
 ·as_aux_lemma=>kernel_rfl
 ·as_aux_lemma=>kernel_rfl
 ·as_aux_lemma=>kernel_rfl
 ·exact azh
 ·exact RD
 ·exact azi
 ·exact azj
 ·as_aux_lemma=>kernel_rfl
 ·as_aux_lemma=>kernel_rfl
 ·as_aux_lemma=>kernel_rfl
 ·exact Rs
 ·as_aux_lemma=>kernel_rfl
 ·as_aux_lemma=>kernel_rfl
 ·as_aux_lemma=>kernel_rfl
 ·as_aux_lemma=>kernel_rfl
 ·as_aux_lemma=>kernel_rfl
 ·exact azk
 ·as_aux_lemma=>kernel_rfl
 ·exact azl
 ·exact azm
 ·exact azn
 ·exact azo
 ·as_aux_lemma=>kernel_rfl
 ·as_aux_lemma=>kernel_rfl
 ·as_aux_lemma=>kernel_rfl
 ·as_aux_lemma=>kernel_rfl
theorem inst:Tryz.f5.isInstance Tryz.prog Rows.stateSumsRow.origin Rows.stateSumsRow.targs:=of_decide_eq_true (by kernel_rfl)
theorem wrap:Tryz.f5.isWrapper Tryz.prog Rows.stateSumsRow.wrapper Rows.stateSumsRow.mainSum:=by unfold Func.isWrapper;first|(rw[if_pos (by decide +kernel)];kernel_rfl)|(rw[if_neg (by decide +kernel)];exact⟨rfl,rfl⟩)
end Go.Proofs.YtgkcikhegodchaaGreatDoor.summing
