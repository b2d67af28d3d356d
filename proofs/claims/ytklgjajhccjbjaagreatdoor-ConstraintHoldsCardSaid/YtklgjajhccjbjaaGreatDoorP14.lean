/- The words of the functions that both laws call. -/
import Derived.Test.YtklgjajhccjbjaaGreatDoorP11
import Derived.Test.YtklgjajhccjbjaaGreatDoorP09
import Derived.Test.YtklgjajhccjbjaaGreatDoorP12
import Derived.Test.YtklgjajhccjbjaaGreatDoorP13
set_option linter.unusedVariables false
set_option linter.unusedSimpArgs false
namespace Go.Abs.T12
open Go Go.Abs Go.Abs.Cyc Go.Proofs
set_option maxRecDepth 100000
variable {g : Nat → Option Obj}

noncomputable def tabA : Nat → Option Fun := over tab0 20 (word tab0 20)
noncomputable def tabB : Nat → Option Fun := over tabA 25 (word tabA 25)
noncomputable def tabC1 : Nat → Option Fun := over tabB 11 (word tabB 11)
theorem tabA_o {i : Nat} (h : i ≠ 20) : tabA i = tab0 i := over_other _ _ h
theorem tabB_o {i : Nat} (h : i ≠ 20) (h2 : i ≠ 25) : tabB i = tab0 i := (over_other _ _ h2).trans (tabA_o h)
theorem tabC_o {i : Nat} (h : i ≠ 20) (h2 : i ≠ 25) (h3 : i ≠ 11) : tabC1 i = tab0 i := (over_other _ _ h3).trans (tabB_o h h2)
theorem graph_w (k fam b f s : Int) (t : V) (n : Nat) (ht : cellOk t = true) (hn : n < 4611686018427387904) : word tab0 20 [.agg (con k fam t b f s), .int .i64 n] = some (.bool (graphB k f s n)) :=
  word_eq (graph_s (by rfl) ht hn) rfl
theorem has_w (sv : V) (l : List Int) (v : Int) (h : VL sv l) (hp : isP sv = true) : word tabA 25 [sv, .int .i64 v] = some (.bool (decide (v ∈ l))) :=
  word_eq (contains_s (by rw [tabA_o (by decide)]; rfl) (by rw [tabA_o (by decide)]; rfl) h hp) rfl

theorem tabB_c : Tc tabB where
  h24 := by rw [tabB_o (by decide) (by decide)]; rfl
  h26 := by rw [tabB_o (by decide) (by decide)]; rfl
  h25 := ⟨_, over_same _ _ _, has_w⟩
  h11 := by rw [tabB_o (by decide) (by decide)]; rfl
  h20 := ⟨_, (over_other _ _ (by decide)).trans (over_same _ _ _), graph_w⟩

theorem cycV_isP (vals : List Int) (f s : Nat) : isP (cycV vals f s) = true := by unfold cycV; split <;> rfl

theorem cycle_w (k fam b f s : Int) (t sv : V) (vals : List Int) (ht : cellOk t = true) (htp : isP t = true) (hv : VL sv vals) (hsp : isP sv = true) : word tabB 11 [.agg (con k fam t b f s), sv] = some (if graphB k f s vals.length then cycV vals f.toNat s.toNat else .nil0) :=
  word_eq (cycle_s tabB_c ht htp hv hsp) (by split; exact cycV_isP _ _ _; rfl)

theorem tabC_w : Tw tabC1 where
  h20 := ⟨_, (over_other _ _ (by decide)).trans ((over_other _ _ (by decide)).trans (over_same _ _ _)), graph_w⟩
  h11 := ⟨_, over_same _ _ _, cycle_w⟩

theorem awake_w : word tab7 5 [] = some (.bool true) := word_eq (callL_iff.2 ⟨200, awake_all⟩) rfl

/-- Every table here is the program's. -/
theorem tab7_ok (h : TabOk (C g) id tab0) : TabOk (C g) id tab7 :=
  have h1 := over_ok h (memos_ok mixed ctx_ok h (i := 144) (f := F144) rfl m144_ok)
  have h2 := over_ok h1 (memos_ok mixed ctx_ok h1 (i := 47) (f := F47) rfl m47_ok)
  have h3 := over_ok h2 (memos_ok mixed ctx_ok h2 (i := 51) (f := F51) rfl m51_ok)
  have h4 := over_ok h3 (memos_ok mixed ctx_ok h3 (i := 29) (f := F29) rfl m29_ok)
  have h5 := over_ok h4 (memos_ok mixed ctx_ok h4 (i := 68) (f := F68) rfl m68_ok)
  have h6 := over_ok h5 (memos_ok mixed ctx_ok h5 (i := 28) (f := F28) rfl m28_ok)
  over_ok h6 (memos_ok mixed ctx_ok h6 (i := 14) (f := F14) rfl m14_ok)
end Go.Abs.T12
