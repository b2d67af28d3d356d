/- The law CellsTuples, reckoned. -/
import Derived.Test.YteiajndkjnlmiaaGreatDoorP06
import Derived.Test.YteiajndkjnlmiaaGreatDoorP05
import Derived.Deep.DeepWitnessRowRef
import Derived.Lib.Join
set_option linter.unusedVariables false
set_option linter.unusedSimpArgs false
namespace Go.Abs.T09
open Go Go.Abs

theorem slE_nil0 (es : Nat) : slE es .nil0 = true := rfl
theorem el_nil0 : el .nil0 = [] := rfl

def okSize (n : Int) : Bool := decide (1 ≤ n) && decide (n ≤ 6)

/-- The slots that outlive the loops. -/
def Keeps (st st' : St) (ss : List Nat) : Prop := ∀ s ∈ ss, lookupE st'.vE s = lookupE st.vE s

set_option maxHeartbeats 1000000 in
theorem loop1_s {sv cv : V} {sizes cols : List Int} (hs : VI sv sizes) (hc : VI cv cols) {st : St} (e0 : lookupE st.vE 0 = sv) (e1 : lookupE st.vE 1 = cv) (e25 : lookupE st.vE 25 = sv) (e26 : lookupE st.vE 26 = .int .i64 sizes.length)
    (e27 : lookupE st.vE 27 = .int .i64 0) (e5 : lookupE st.vE 5 = .int .i64 1) (eH : st.H = []) (eL : st.low = 0) :
    ∃ x st', execL tab (.loop (rangeBody 28 26 27 42 1 0 F7L0)) st = some (x, st') ∧ st'.H = [] ∧ st'.low = 0 ∧
      ((x = .exit 0 ∧ sizes.all okSize = true ∧ lookupE st'.vE 0 = sv ∧ lookupE st'.vE 1 = cv ∧ lookupE st'.vE 5 = .int .i64 1) ∨ (x = .ret ∧ lookupE st'.vE 4 = .bool true)) := by
  have key := range_loop (tab := tab) (b := 28) (n := 26) (i := 27) (t := 42) (blk := 1) (ex := 0) (body := F7L0)
    (I := fun k st => st.H = [] ∧ st.low = 0 ∧ lookupE st.vE 0 = sv ∧ lookupE st.vE 1 = cv ∧ lookupE st.vE 5 = .int .i64 1 ∧ lookupE st.vE 25 = sv ∧ lookupE st.vE 27 = .int .i64 k ∧ lookupE st.vE 26 = .int .i64 sizes.length ∧ (sizes.take k).all okSize = true)
    (Q := fun x st => st.H = [] ∧ st.low = 0 ∧ ((x = .exit 0 ∧ sizes.all okSize = true ∧ lookupE st.vE 0 = sv ∧ lookupE st.vE 1 = cv ∧ lookupE st.vE 5 = .int .i64 1) ∨ (x = .ret ∧ lookupE st.vE 4 = .bool true)))
    (N := sizes.length) hs.lt (by decide) (by decide)
    (fun k st h => ⟨h.2.2.2.2.2.2.1, h.2.2.2.2.2.2.2.1, by rw [h.1, h.2.1]; exact Nat.le_refl _⟩)
    (by
      rintro k st hk ⟨q1, q2, q3, q4, q5, q6, q7, q8, q9⟩
      obtain ⟨n, hn⟩ : ∃ n, sizes[k]? = some n := ⟨_, List.getElem?_eq_getElem hk⟩
      have hg := hs.get hn
      have hmem := List.mem_of_getElem? hn
      by_cases hok : okSize n = true
      · have h1 : ¬ n < 1 := by simp [okSize] at hok; omega
        have h2 : ¬ n > 6 := by simp [okSize] at hok; omega
        have h2' : ¬ 6 < n := h2
        refine ⟨.normal, _, by simp [F7L0, callBody, zipE, execL_seq, execL_region, execL_cond, execL_skip, execL_ret, execL_exit, execL_block, execOps, wantedA, S_mv, S_pick, S_bin, S_un, S_call0, S_call1, S_extract, S_nilEq, S_load, S_alloc, S_box, Opd.ev, lookupE, lookE_setE, St.put, binA, unA, boolOf, freezeVs, freezeV, freeze1, isP, isPs, resultsA, resultA, finish, old, olds, flat, movedH_same, Nat.min_self, loadA, readCells, cellsV, q1, q2, q3, q4, q6, q7, q8, S_index, hs.sl, hg, h1, h2, h2']; rfl, ?_⟩
        simp only [true_or, if_true, lookE_setE, q1, q2]
        refine ⟨by simp [q7], by simp, trivial, by simp, by simp [q3], by simp [q4], by simp [q5], by simp [q6], by simp, by simp [q8], ?_⟩
        rw [List.take_add_one, hn]
        simp [q9, hok]
      · have hall : (sizes.all fun n => decide (1 ≤ n) && decide (n ≤ 6)) = false := by
          rw [List.all_eq_false]; exact ⟨n, hmem, by simpa [okSize] using hok⟩
        have ht := tuples_bad hs hc (.inr hall)
        unfold Ans at ht
        simp only [List.length_nil] at ht
        by_cases h1 : n < 1
        · refine ⟨.ret, _, by simp [F7L0, callBody, zipE, execL_seq, execL_region, execL_cond, execL_skip, execL_ret, execL_exit, execL_block, execOps, wantedA, S_mv, S_pick, S_bin, S_un, S_call0, S_call1, S_extract, S_nilEq, S_load, S_alloc, S_box, Opd.ev, lookupE, lookE_setE, St.put, binA, unA, boolOf, freezeVs, freezeV, freeze1, isP, isPs, resultsA, resultA, finish, old, olds, flat, movedH_same, Nat.min_self, loadA, readCells, cellsV, q1, q2, q3, q4, q6, q7, q8, S_index, S_len 1, slE_nil0, el_nil0, hs.sl, hs.isP, hc.isP, hg, h1, ht]; rfl, ?_⟩
          simp [q1, q2, lookE_setE]
        · have h2 : n > 6 := by simp [okSize] at hok; omega
          have h2' : 6 < n := h2
          refine ⟨.ret, _, by simp [F7L0, callBody, zipE, execL_seq, execL_region, execL_cond, execL_skip, execL_ret, execL_exit, execL_block, execOps, wantedA, S_mv, S_pick, S_bin, S_un, S_call0, S_call1, S_extract, S_nilEq, S_load, S_alloc, S_box, Opd.ev, lookupE, lookE_setE, St.put, binA, unA, boolOf, freezeVs, freezeV, freeze1, isP, isPs, resultsA, resultA, finish, old, olds, flat, movedH_same, Nat.min_self, loadA, readCells, cellsV, q1, q2, q3, q4, q6, q7, q8, S_index, S_len 1, slE_nil0, el_nil0, hs.sl, hs.isP, hc.isP, hg, h1, h2, h2', ht]; rfl, ?_⟩
          simp [q1, q2, lookE_setE])
    (by
      rintro st ⟨q1, q2, q3, q4, q5, q6, q7, q8, q9⟩
      rw [List.take_length] at q9
      exact ⟨q1, q2, .inl ⟨rfl, q9, by simp [lookE_setE, q3], by simp [lookE_setE, q4], by simp [lookE_setE, q5]⟩⟩)
  exact key sizes.length 0 st (by omega) ⟨eH, eL, e0, e1, e5, e25, e27, e26, by simp⟩

theorem pow6 {k : Nat} (h : k ≤ 3) : (6 : Int) ^ k ≤ 216 := by
  have : k = 0 ∨ k = 1 ∨ k = 2 ∨ k = 3 := by omega
  rcases this with rfl | rfl | rfl | rfl <;> decide

theorem mul_bound {p d : Int} {k : Nat} (h1 : 1 ≤ p) (h2 : p ≤ 6 ^ k) (h3 : 1 ≤ d) (h4 : d ≤ 6) : 1 ≤ p * d ∧ p * d ≤ 6 ^ (k + 1) := by
  constructor
  · have := Int.mul_le_mul h1 h3 (by omega) (by omega); simpa using this
  · have := Int.mul_le_mul h2 h4 (by omega) (Int.le_trans (by omega) h2)
    rw [Int.pow_succ]; exact this

set_option maxHeartbeats 1000000 in
theorem loop2_s {sv cv : V} {sizes cols : List Int} (hs : VI sv sizes) (hc : VI cv cols) (h3 : cols.length ≤ 3) (hok : sizes.all okSize = true) {st : St} (e0 : lookupE st.vE 0 = sv) (e1 : lookupE st.vE 1 = cv) (e43 : lookupE st.vE 43 = cv)
    (e44 : lookupE st.vE 44 = .int .i64 cols.length) (e45 : lookupE st.vE 45 = .int .i64 0) (e5 : lookupE st.vE 5 = .int .i64 1) (eH : st.H = []) (eL : st.low = 0) :
    ∃ x st', execL tab (.loop (rangeBody 46 44 45 68 3 2 F7L1)) st = some (x, st') ∧ st'.H = [] ∧ st'.low = 0 ∧
      ((x = .exit 2 ∧ cols.any (badCol sizes) = false ∧ lookupE st'.vE 0 = sv ∧ lookupE st'.vE 1 = cv ∧ lookupE st'.vE 5 = .int .i64 (prodI (dimsOf sizes cols)) ∧
        ∀ k, k ≤ cols.length → 1 ≤ prodI ((dimsOf sizes cols).take k) ∧ prodI ((dimsOf sizes cols).take k) ≤ 216) ∨ (x = .ret ∧ lookupE st'.vE 4 = .bool true)) := by
  have key := range_loop (tab := tab) (b := 46) (n := 44) (i := 45) (t := 68) (blk := 3) (ex := 2) (body := F7L1)
    (I := fun k st => st.H = [] ∧ st.low = 0 ∧ lookupE st.vE 0 = sv ∧ lookupE st.vE 1 = cv ∧ lookupE st.vE 5 = .int .i64 (prodI ((dimsOf sizes cols).take k)) ∧ lookupE st.vE 43 = cv ∧ lookupE st.vE 45 = .int .i64 k ∧ lookupE st.vE 44 = .int .i64 cols.length ∧
      (cols.take k).any (badCol sizes) = false ∧ ∀ m, m ≤ k → 1 ≤ prodI ((dimsOf sizes cols).take m) ∧ prodI ((dimsOf sizes cols).take m) ≤ 6 ^ m)
    (Q := fun x st => st.H = [] ∧ st.low = 0 ∧ ((x = .exit 2 ∧ cols.any (badCol sizes) = false ∧ lookupE st.vE 0 = sv ∧ lookupE st.vE 1 = cv ∧ lookupE st.vE 5 = .int .i64 (prodI (dimsOf sizes cols)) ∧
        ∀ k, k ≤ cols.length → 1 ≤ prodI ((dimsOf sizes cols).take k) ∧ prodI ((dimsOf sizes cols).take k) ≤ 216) ∨ (x = .ret ∧ lookupE st.vE 4 = .bool true)))
    (N := cols.length) hc.lt (by decide) (by decide)
    (fun k st h => ⟨h.2.2.2.2.2.2.1, h.2.2.2.2.2.2.2.1, by rw [h.1, h.2.1]; exact Nat.le_refl _⟩)
    (by
      rintro k st hk ⟨q1, q2, q3, q4, q5, q6, q7, q8, q9, q10⟩
      obtain ⟨c, hcc⟩ : ∃ c, cols[k]? = some c := ⟨_, List.getElem?_eq_getElem hk⟩
      have hg := hc.get hcc
      have hmem := List.mem_of_getElem? hcc
      by_cases hbad : badCol sizes c = true
      · have hall : (decide (cols.length ≤ 3) && !cols.any (badCol sizes)) = false := by
          have : cols.any (badCol sizes) = true := List.any_eq_true.2 ⟨c, hmem, hbad⟩
          simp [this]
        have ht := tuples_bad hs hc (.inl hall)
        unfold Ans at ht
        simp only [List.length_nil] at ht
        by_cases h1 : c < 0
        · refine ⟨.ret, _, by simp [F7L1, callBody, zipE, execL_seq, execL_region, execL_cond, execL_skip, execL_ret, execL_exit, execL_block, execOps, wantedA, S_mv, S_pick, S_bin, S_un, S_call0, S_call1, S_extract, S_nilEq, S_load, S_alloc, S_box, Opd.ev, lookupE, lookE_setE, St.put, binA, unA, boolOf, freezeVs, freezeV, freeze1, isP, isPs, resultsA, resultA, finish, old, olds, flat, movedH_same, Nat.min_self, loadA, readCells, cellsV, q1, q2, q3, q4, q6, q7, q8, S_index, S_len 1, slE_nil0, el_nil0, hc.sl, hs.isP, hc.isP, hg, h1, ht]; rfl, ?_⟩
          simp [q1, q2, lookE_setE]
        · have h2 : c ≥ sizes.length := by simp [badCol] at hbad; omega
          have h2' : (sizes.length : Int) ≤ c := h2
          have hlen : stepC (callL tab) = stepC (callL tab) := rfl
          refine ⟨.ret, _, by simp [F7L1, callBody, zipE, execL_seq, execL_region, execL_cond, execL_skip, execL_ret, execL_exit, execL_block, execOps, wantedA, S_mv, S_pick, S_bin, S_un, S_call0, S_call1, S_extract, S_nilEq, S_load, S_alloc, S_box, Opd.ev, lookupE, lookE_setE, St.put, binA, unA, boolOf, freezeVs, freezeV, freeze1, isP, isPs, resultsA, resultA, finish, old, olds, flat, movedH_same, Nat.min_self, loadA, readCells, cellsV, q1, q2, q3, q4, q6, q7, q8, S_index, S_len 1, slE_nil0, el_nil0, hs.sl, hs.len, hc.sl, hs.isP, hc.isP, hg, h1, h2, h2', ht]; rfl, ?_⟩
          simp [q1, q2, lookE_setE]
      · have hb' : ¬ c < 0 ∧ ¬ c ≥ sizes.length := by simp [badCol] at hbad; omega
        obtain ⟨h1, h2⟩ := hb'
        have h2' : ¬ (sizes.length : Int) ≤ c := h2
        have c0 : 0 ≤ c := by omega
        obtain ⟨d, hd⟩ : ∃ d, sizes[c.toNat]? = some d := ⟨_, List.getElem?_eq_getElem (by omega)⟩
        have hgd := hs.get hd
        have hdim : (dimsOf sizes cols)[k]? = some d := by simp [dimsOf, hcc, hd]
        have hdo : okSize d = true := List.all_eq_true.1 hok d (List.mem_of_getElem? hd)
        have hd1 : 1 ≤ d ∧ d ≤ 6 := by simpa [okSize] using hdo
        have hp := prodI_take hdim
        obtain ⟨p1, p2⟩ := q10 k (Nat.le_refl _)
        have hmb := mul_bound p1 p2 hd1.1 hd1.2
        rw [← hp] at hmb
        have h216 := pow6 (k := k + 1) (by omega)
        have hw : IntKind.i64.wrap (prodI ((dimsOf sizes cols).take k) * d) = prodI ((dimsOf sizes cols).take (k + 1)) := by rw [← hp, wrap_small] <;> omega
        refine ⟨.normal, _, by simp [F7L1, callBody, zipE, execL_seq, execL_region, execL_cond, execL_skip, execL_ret, execL_exit, execL_block, execOps, wantedA, S_mv, S_pick, S_bin, S_un, S_call0, S_call1, S_extract, S_nilEq, S_load, S_alloc, S_box, Opd.ev, lookupE, lookE_setE, St.put, binA, unA, boolOf, freezeVs, freezeV, freeze1, isP, isPs, resultsA, resultA, finish, old, olds, flat, movedH_same, Nat.min_self, loadA, readCells, cellsV, q1, q2, q3, q4, q5, q6, q7, q8, S_index, S_len 1, hs.sl, hs.len, hc.sl, hg, h1, h2, h2', natOf_nonneg _ c0, hgd, hw]; rfl, ?_⟩
        simp only [true_or, if_true, lookE_setE, q1, q2]
        refine ⟨by simp [q7], by simp, trivial, by simp, by simp [q3], by simp [q4], by simp, by simp [q6], by simp, by simp [q8], ?_, fun m hm => ?_⟩
        · rw [List.take_add_one, hcc]
          simp [q9]
          simpa using hbad
        · by_cases hmk : m = k + 1
          · subst hmk; exact hmb
          · exact q10 m (by omega))
    (by
      rintro st ⟨q1, q2, q3, q4, q5, q6, q7, q8, q9, q10⟩
      rw [List.take_length] at q9
      rw [List.take_of_length_le (by simp [dimsOf])] at q5
      refine ⟨q1, q2, .inl ⟨rfl, q9, by simp [lookE_setE, q3], by simp [lookE_setE, q4], by simp [lookE_setE, q5], fun k hk => ⟨(q10 k hk).1, Int.le_trans (q10 k hk).2 (pow6 (by omega))⟩⟩⟩)
  have hz : ∀ m, m ≤ 0 → 1 ≤ prodI ((dimsOf sizes cols).take m) ∧ prodI ((dimsOf sizes cols).take m) ≤ 6 ^ m := fun m hm => by
    have : m = 0 := by omega
    subst this
    simp [prodI]
  exact key cols.length 0 st (by omega) ⟨eH, eL, e0, e1, by simpa [prodI] using e5, e43, e45, e44, by simp, hz⟩

/-! ### the tuples themselves -/

theorem InR.at {ds t : List Int} (h : InR ds t) {m : Nat} (hm : m < ds.length) : ∃ x d, t[m]? = some x ∧ ds[m]? = some d ∧ 0 ≤ x ∧ x < d := by
  have h1 : m < t.length := by rw [h.1]; exact hm
  exact ⟨t[m], ds[m], List.getElem?_eq_getElem h1, List.getElem?_eq_getElem hm, h.2 m _ _ (List.getElem?_eq_getElem h1) (List.getElem?_eq_getElem hm)⟩

set_option maxHeartbeats 1000000 in
theorem loop4_s {sv cv tu : V} {sizes cols t : List Int} (hs : VI sv sizes) (hc : VI cv cols) (ht : VI tu t) (hin : ∀ c ∈ cols, 0 ≤ c ∧ c < sizes.length) (hR : InR (dimsOf sizes cols) t) {st : St}
    (e0 : lookupE st.vE 0 = sv) (e1 : lookupE st.vE 1 = cv) (e98 : lookupE st.vE 98 = tu) (e99 : lookupE st.vE 99 = .int .i64 t.length) (e100 : lookupE st.vE 100 = .int .i64 0) (eH : st.H = []) (eL : st.low = 0) :
    ∃ st', execL tab (.loop (rangeBody 101 99 100 118 7 6 F7L2)) st = some (.exit 6, st') ∧ st'.H = [] ∧ st'.low = 0 ∧ ∀ s, s ∉ [100, 101, 13, 14, 117] → lookupE st'.vE s = lookupE st.vE s := by
  have hdl : (dimsOf sizes cols).length = cols.length := by simp [dimsOf]
  have key := range_loop (tab := tab) (b := 101) (n := 99) (i := 100) (t := 118) (blk := 7) (ex := 6) (body := F7L2)
    (I := fun k s => s.H = [] ∧ s.low = 0 ∧ lookupE s.vE 0 = sv ∧ lookupE s.vE 1 = cv ∧ lookupE s.vE 98 = tu ∧ lookupE s.vE 100 = .int .i64 k ∧ lookupE s.vE 99 = .int .i64 t.length ∧ ∀ q, q ∉ [100, 101, 13, 14, 117] → lookupE s.vE q = lookupE st.vE q)
    (Q := fun x s => x = .exit 6 ∧ s.H = [] ∧ s.low = 0 ∧ ∀ q, q ∉ [100, 101, 13, 14, 117] → lookupE s.vE q = lookupE st.vE q)
    (N := t.length) ht.lt (by decide) (by decide)
    (fun k s h => ⟨h.2.2.2.2.2.1, h.2.2.2.2.2.2.1, by rw [h.1, h.2.1]; exact Nat.le_refl _⟩)
    (by
      rintro k s hk ⟨q1, q2, q3, q4, q5, q6, q7, q8⟩
      have hkc : k < cols.length := by rw [← hdl, ← hR.1]; exact hk
      obtain ⟨x, d, hx, hdd, x0, xd⟩ := hR.at (m := k) (by rw [hdl]; exact hkc)
      obtain ⟨c, hcc⟩ : ∃ c, cols[k]? = some c := ⟨_, List.getElem?_eq_getElem hkc⟩
      obtain ⟨c0, c1⟩ := hin c (List.mem_of_getElem? hcc)
      obtain ⟨d', hd'⟩ : ∃ d, sizes[c.toNat]? = some d := ⟨_, List.getElem?_eq_getElem (by omega)⟩
      have hdim : (dimsOf sizes cols)[k]? = some d' := by simp [dimsOf, hcc, hd']
      rw [hdim] at hdd; cases hdd
      have hgx := ht.get hx
      have hgc := hc.get hcc
      have hgd := hs.get hd'
      have h1 : ¬ x < 0 := by omega
      have h2 : ¬ x ≥ d := by omega
      have h2' : ¬ d ≤ x := by omega
      refine ⟨.normal, _, by simp [F7L2, callBody, zipE, execL_seq, execL_region, execL_cond, execL_skip, execL_ret, execL_exit, execL_block, execOps, wantedA, S_mv, S_pick, S_bin, S_un, S_call0, S_call1, S_extract, S_nilEq, S_load, S_alloc, S_box, Opd.ev, lookupE, lookE_setE, St.put, binA, unA, boolOf, freezeVs, freezeV, freeze1, isP, isPs, resultsA, resultA, finish, old, olds, flat, movedH_same, Nat.min_self, loadA, readCells, cellsV, q1, q2, q3, q4, q5, q6, q7, S_index, ht.sl, hc.sl, hs.sl, hgx, hgc, hgd, natOf_nonneg _ c0, h1, h2, h2']; rfl, ?_⟩
      simp only [true_or, if_true, lookE_setE, q1, q2]
      refine ⟨by simp [q6], by simp, trivial, by simp, by simp [q3], by simp [q4], by simp [q5], by simp, by simp [q7], fun q hq => ?_⟩
      have hq' := hq
      simp only [List.mem_cons, List.not_mem_nil, or_false, not_or] at hq'
      obtain ⟨z1, z2, z3, z4, z5⟩ := hq'
      simp [z1, z2, z3, z4, z5, q8 q hq])
    (by
      rintro s ⟨q1, q2, q3, q4, q5, q6, q7, q8⟩
      refine ⟨rfl, q1, q2, fun q hq => ?_⟩
      have hq' := hq
      simp only [List.mem_cons, List.not_mem_nil, or_false, not_or] at hq'
      simp [lookE_setE, hq'.2.1, q8 q hq])
  obtain ⟨x, st', h1, rfl, h2, h3, h4⟩ := key t.length 0 st (by omega) ⟨eH, eL, e0, e1, e98, e100, e99, fun q _ => rfl⟩
  exact ⟨st', h1, h2, h3, h4⟩

set_option maxHeartbeats 2000000 in
theorem loop3_s {sv cv lv : V} {LL : List V} {sizes cols : List Int} (hs : VI sv sizes) (hc : VI cv cols) (hin : ∀ c ∈ cols, 0 ≤ c ∧ c < sizes.length) (hd : ∀ d ∈ dimsOf sizes cols, 1 ≤ d) {W : Nat} (hW : prodI (dimsOf sizes cols) = W) (hWb : W ≤ 1000)
    (hl : lv = .list 1 LL) (hlen : LL.length = W) (hLL : ∀ k, k < W → ∃ v, LL[k]? = some v ∧ VI v (tk (dimsOf sizes cols) k) ∧ cellsV v = [v]) {st : St}
    (e0 : lookupE st.vE 0 = sv) (e1 : lookupE st.vE 1 = cv) (e10 : lookupE st.vE 10 = lv) (e72 : lookupE st.vE 72 = lv) (e73 : lookupE st.vE 73 = .int .i64 W) (e74 : lookupE st.vE 74 = .int .i64 0) (e5 : lookupE st.vE 5 = .int .i64 W) (eH : st.H = []) (eL : st.low = 0) :
    ∃ st', execL tab (.loop (rangeBody 75 73 74 119 5 4 F7L3)) st = some (.exit 4, st') ∧ st'.H = [] ∧ st'.low = 0 ∧ lookupE st'.vE 10 = lv ∧ lookupE st'.vE 5 = .int .i64 W := by
  have hdl : (dimsOf sizes cols).length = cols.length := by simp [dimsOf]
  have key := range_loop (tab := tab) (b := 75) (n := 73) (i := 74) (t := 119) (blk := 5) (ex := 4) (body := F7L3)
    (I := fun k s => s.H = [] ∧ s.low = 0 ∧ lookupE s.vE 0 = sv ∧ lookupE s.vE 1 = cv ∧ lookupE s.vE 10 = lv ∧ lookupE s.vE 72 = lv ∧ lookupE s.vE 74 = .int .i64 k ∧ lookupE s.vE 73 = .int .i64 W ∧ lookupE s.vE 5 = .int .i64 W)
    (Q := fun x s => x = .exit 4 ∧ s.H = [] ∧ s.low = 0 ∧ lookupE s.vE 10 = lv ∧ lookupE s.vE 5 = .int .i64 W)
    (N := W) (by omega) (by decide) (by decide)
    (fun k s h => ⟨h.2.2.2.2.2.2.1, h.2.2.2.2.2.2.2.1, by rw [h.1, h.2.1]; exact Nat.le_refl _⟩)
    (by
      rintro k s hk ⟨q1, q2, q3, q4, q5, q6, q7, q8, q9⟩
      subst hl
      obtain ⟨tu, hg, hvi, hcl⟩ := hLL k hk
      have hR := tk_inR hd k
      have hlt : (tk (dimsOf sizes cols) k).length = cols.length := hR.1.trans hdl
      have hgl : (el (.list 1 LL))[k]? = some tu := hg
      have hll : slE 1 (V.list 1 LL) = true := rfl
      have hnb : ((cols.length : Int) != (cols.length : Int)) = false := by simp
      -- the inner loop
      have inner : ∀ (env : Env), lookupE env 0 = sv → lookupE env 1 = cv → lookupE env 12 = tu → ∃ st', execL tab (.loop (rangeBody 101 99 100 118 7 6 F7L2)) { tE := [], vE := setE (setE (setE env 98 tu) 99 (.int .i64 cols.length)) 100 (.int .i64 0), H := [], low := 0, ro := s.ro } = some (.exit 6, st') ∧ st'.H = [] ∧ st'.low = 0 ∧
          ∀ q, q ∉ [100, 101, 13, 14, 117] → lookupE st'.vE q = lookupE (setE (setE (setE env 98 tu) 99 (.int .i64 cols.length)) 100 (.int .i64 0)) q := fun env f0 f1 f12 => by
        refine loop4_s hs hc hvi hin hR ?_ ?_ ?_ ?_ ?_ rfl rfl <;> simp [lookE_setE, f0, f1, hlt]
      have hfin : ∀ (env : Env) (st2 : St), (∀ q, q ∉ [100, 101, 13, 14, 117] → lookupE st2.vE q = lookupE (setE (setE (setE env 98 tu) 99 (.int .i64 cols.length)) 100 (.int .i64 0)) q) → lookupE env 0 = sv → lookupE env 1 = cv → lookupE env 10 = .list 1 LL → lookupE env 72 = .list 1 LL → lookupE env 74 = .int .i64 k → lookupE env 73 = .int .i64 W → lookupE env 5 = .int .i64 W → st2.H = [] → st2.low = 0 →
          (lookupE st2.vE 74 = .int .i64 k ∧ st2.low ≤ st2.H.length ∧ (st2.H = [] ∧ st2.low = 0 ∧ lookupE (setE st2.vE 74 (.int .i64 ((k + 1 : Nat) : Int))) 0 = sv ∧ lookupE (setE st2.vE 74 (.int .i64 ((k + 1 : Nat) : Int))) 1 = cv ∧ lookupE (setE st2.vE 74 (.int .i64 ((k + 1 : Nat) : Int))) 10 = .list 1 LL ∧ lookupE (setE st2.vE 74 (.int .i64 ((k + 1 : Nat) : Int))) 72 = .list 1 LL ∧
            lookupE (setE st2.vE 74 (.int .i64 ((k + 1 : Nat) : Int))) 74 = .int .i64 ((k + 1 : Nat) : Int) ∧ lookupE (setE st2.vE 74 (.int .i64 ((k + 1 : Nat) : Int))) 73 = .int .i64 W ∧ lookupE (setE st2.vE 74 (.int .i64 ((k + 1 : Nat) : Int))) 5 = .int .i64 W)) := fun env st2 hq g0 g1 g10 g72 g74 g73 g5 gH gL => by
        refine ⟨by rw [hq 74 (by decide)]; simp [lookE_setE, g74], by rw [gL]; exact Nat.zero_le _, gH, gL, ?_, ?_, ?_, ?_, by simp [lookE_setE], ?_, ?_⟩
        · simp only [lookE_setE]; rw [hq 0 (by decide)]; simp [lookE_setE, g0]
        · simp only [lookE_setE]; rw [hq 1 (by decide)]; simp [lookE_setE, g1]
        · simp only [lookE_setE]; rw [hq 10 (by decide)]; simp [lookE_setE, g10]
        · simp only [lookE_setE]; rw [hq 72 (by decide)]; simp [lookE_setE, g72]
        · simp only [lookE_setE]; rw [hq 73 (by decide)]; simp [lookE_setE, g73]
        · simp only [lookE_setE]; rw [hq 5 (by decide)]; simp [lookE_setE, g5]
      by_cases hk0 : k = 0
      · have hgt : ¬ (k : Int) > 0 := by omega
        have hgt' : ¬ 0 < k := by omega
        obtain ⟨st2, r1, r2, r3, r4⟩ := inner (setE (setE (setE (setE s.vE 75 (.bool true)) 11 (.int .i64 k)) 12 tu) 97 (.bool false)) (by simp [lookE_setE, q3]) (by simp [lookE_setE, q4]) (by simp [lookE_setE])
        refine ⟨.normal, st2, by simp [F7L3, callBody, zipE, execL_seq, execL_region, execL_cond, execL_skip, execL_ret, execL_exit, execL_block, execOps, wantedA, S_mv, S_pick, S_bin, S_un, S_call0, S_call1, S_extract, S_nilEq, S_load, S_alloc, Opd.ev, lookupE, lookE_setE, St.put, binA, unA, boolOf, freezeVs, freezeV, freeze1, isP, isPs, resultsA, resultA, finish, old, olds, flat, movedH_same, Nat.min_self, loadA, readCells, cellsV_int, q1, q2, q3, q4, q5, q6, q7, q8, S_index, S_len 1, hll, hgl, hcl, hvi.sl, hvi.len, hlt, hc.sl, hc.len, hgt, hgt', r1], ?_⟩
        simp only [true_or, if_true]
        exact hfin _ st2 r4 (by simp [lookE_setE, q3]) (by simp [lookE_setE, q4]) (by simp [lookE_setE, q5]) (by simp [lookE_setE, q6]) (by simp [lookE_setE, q7]) (by simp [lookE_setE, q8]) (by simp [lookE_setE, q9]) r2 r3
      · have hgt : (k : Int) > 0 := by omega
        have hgt' : 0 < k := by omega
        obtain ⟨tp, hgp, hvp, hcp⟩ := hLL (k - 1) (by omega)
        obtain ⟨j, x, j1, j2, j3, j4⟩ := tk_rises hd (k := k - 1) (by rw [hW]; omega)
        have hk1 : k - 1 + 1 = k := by omega
        rw [hk1] at j3 j4
        have hcmp := compareL_s (H := []) hvp hvi j2 j3 j4
        unfold Ans at hcmp
        simp only [List.length_nil] at hcmp
        have hw : IntKind.i64.wrap ((k : Int) - 1) = ((k - 1 : Nat) : Int) := by rw [wrap_small] <;> omega
        have hglp : (el (.list 1 LL))[k - 1]? = some tp := hgp
        have hge : ¬ (-1 : Int) ≥ 0 := by decide
        obtain ⟨st2, r1, r2, r3, r4⟩ := inner (setE (setE (setE (setE s.vE 75 (.bool true)) 11 (.int .i64 k)) 12 tu) 97 (.bool false)) (by simp [lookE_setE, q3]) (by simp [lookE_setE, q4]) (by simp [lookE_setE])
        refine ⟨.normal, st2, by simp [F7L3, callBody, zipE, execL_seq, execL_region, execL_cond, execL_skip, execL_ret, execL_exit, execL_block, execOps, wantedA, S_mv, S_pick, S_bin, S_un, S_call0, S_call1, S_extract, S_nilEq, S_load, S_alloc, Opd.ev, lookupE, lookE_setE, St.put, binA, unA, boolOf, freezeVs, freezeV, freeze1, isP, isPs, resultsA, resultA, finish, old, olds, flat, movedH_same, Nat.min_self, loadA, readCells, cellsV_int, q1, q2, q3, q4, q5, q6, q7, q8, S_index, S_len 1, hll, hgl, hglp, hcl, hcp, hvi.sl, hvi.len, hvi.isP, hvp.isP, hlt, hc.sl, hc.len, hgt, hgt', hw, hcmp, r1], ?_⟩
        simp only [true_or, if_true]
        exact hfin _ st2 r4 (by simp [lookE_setE, q3]) (by simp [lookE_setE, q4]) (by simp [lookE_setE, q5]) (by simp [lookE_setE, q6]) (by simp [lookE_setE, q7]) (by simp [lookE_setE, q8]) (by simp [lookE_setE, q9]) r2 r3)
    (by
      rintro s ⟨q1, q2, q3, q4, q5, q6, q7, q8, q9⟩
      exact ⟨rfl, q1, q2, by simp [lookE_setE, q5], by simp [lookE_setE, q9]⟩)
  obtain ⟨x, st', h1, rfl, h2, h3, h4, h5⟩ := key W 0 st (by omega) ⟨eH, eL, e0, e1, e10, e72, e74, e73, e5⟩
  exact ⟨st', h1, h2, h3, h4, h5⟩
end Go.Abs.T09
/- cells.Valid: one table. -/
namespace Go.Abs.T09
open Go Go.Abs

/-! ### names that were seen -/
def mapS (l : List (List UInt8)) : List (V × V) := l.foldl (fun e s => setEnt 1 (.str s) (.bool true) e) []
theorem mapS_snoc (l : List (List UInt8)) (s : List UInt8) : mapS (l ++ [s]) = setEnt 1 (.str s) (.bool true) (mapS l) := by simp [mapS]
theorem strKeys_mapS (l : List (List UInt8)) : strKeys (mapS l) := by
  have : ∀ (m : List (List UInt8)) e, strKeys e → strKeys (m.foldl (fun e s => setEnt 1 (.str s) (.bool true) e) e) := by
    intro m
    induction m with
    | nil => intro e h; exact h
    | cons a m ih => intro e h; exact ih _ (strKeys_set h _ _)
  exact this l [] (fun p hp => by cases hp)
theorem find_setEnt {es : List (V × V)} (h : strKeys es) (s x : List UInt8) (v : V) : findEnt 1 (.str x) (setEnt 1 (.str s) v es) = if x == s then some (some v) else findEnt 1 (.str x) es := by
  induction es with
  | nil =>
    simp only [setEnt, findEnt, eqK]
    cases (x == s) <;> rfl
  | cons q es ih =>
    obtain ⟨t, ht⟩ := h q (by simp)
    obtain ⟨a, u⟩ := q
    simp only at ht; subst ht
    have ih := ih (fun p hp => h p (by simp [hp]))
    by_cases hst : s = t
    · subst hst
      simp only [setEnt, eqK, beq_self_eq_true, if_true, findEnt]
      cases hx : (x == s) <;> simp
    · have e1 : (s == t) = false := by simp [hst]
      simp only [setEnt, eqK, e1]
      rw [if_neg (by simp)]
      simp only [findEnt, eqK]
      by_cases hxt : x = t
      · subst hxt
        have e2 : (x == s) = false := by simp [Ne.symm hst]
        simp [e2]
      · have e2 : (x == t) = false := by simp [hxt]
        simp only [e2]
        exact ih
theorem find_mapS (l : List (List UInt8)) (x : List UInt8) : findEnt 1 (.str x) (mapS l) = some (if l.contains x then some (.bool true) else none) := by
  have : ∀ (m : List (List UInt8)), findEnt 1 (.str x) (mapS m.reverse) = some (if m.reverse.contains x then some (.bool true) else none) := by
    intro m
    induction m with
    | nil => rfl
    | cons a m ih =>
      rw [List.reverse_cons, mapS_snoc, find_setEnt (strKeys_mapS _), ih]
      by_cases hx : x = a
      · subst hx; simp
      · have e : (x == a) = false := by simp [hx]
        simp [e, hx]
  have h := this l.reverse
  rwa [List.reverse_reverse] at h

/-! ### the columns' bounds -/
def goodCols (sizes cols : List Int) : Bool := decide (cols.length ≤ 3) && !cols.any (badCol sizes)
theorem goodCols_in {sizes cols : List Int} (h : goodCols sizes cols = true) : cols.length ≤ 3 ∧ ∀ c ∈ cols, 0 ≤ c ∧ c < sizes.length := by
  simp only [goodCols, Bool.and_eq_true, decide_eq_true_eq, Bool.not_eq_true'] at h
  refine ⟨h.1, fun c hc => ?_⟩
  have := List.any_eq_false.1 h.2 c hc
  simp [badCol] at this; omega
theorem dims_in {sizes cols : List Int} (hok : sizes.all okSize = true) (h : goodCols sizes cols = true) : ∀ d ∈ dimsOf sizes cols, 1 ≤ d ∧ d ≤ 6 := fun d hd' => by
  obtain ⟨c, hcm, rfl⟩ := List.mem_map.1 hd'
  obtain ⟨c0, c1⟩ := (goodCols_in h).2 c hcm
  obtain ⟨s, hsz⟩ : ∃ s, sizes[c.toNat]? = some s := ⟨_, List.getElem?_eq_getElem (by omega)⟩
  have := List.all_eq_true.1 hok s (List.mem_of_getElem? hsz)
  rw [hsz]; simpa [okSize] using this
theorem prod_bound {ds : List Int} (h : ∀ d ∈ ds, 1 ≤ d ∧ d ≤ 6) : ∀ k, 1 ≤ prodI (ds.take k) ∧ prodI (ds.take k) ≤ 6 ^ k
  | 0 => by simp [prodI]
  | k + 1 => by
    have ih := prod_bound h k
    cases hk : ds[k]? with
    | none =>
      rw [List.take_of_length_le (by have := List.getElem?_eq_none_iff.1 hk; omega), Int.pow_succ]
      rw [List.take_of_length_le (List.getElem?_eq_none_iff.1 hk)] at ih
      omega
    | some d =>
      have hd := h d (List.mem_of_getElem? hk)
      rw [prodI_take hk, Int.pow_succ]
      constructor
      · have := Int.mul_le_mul ih.1 hd.1 (by omega) (by omega)
        omega
      · exact Int.mul_le_mul ih.2 hd.2 (by omega) (by omega)
theorem cols_bound {sizes cols : List Int} (hok : sizes.all okSize = true) (h : goodCols sizes cols = true) : ∀ k, k ≤ cols.length → 1 ≤ prodI ((dimsOf sizes cols).take k) ∧ prodI ((dimsOf sizes cols).take k) ≤ 216 := fun k hk => by
  have h1 := prod_bound (dims_in hok h) k
  have h2 := pow6 (k := k) (by have := (goodCols_in h).1; omega)
  omega
def wid (sizes : List Int) (t : Tb) : Int := prodI (dimsOf sizes t.cl)
theorem wid_bound {sizes : List Int} {t : Tb} (hok : sizes.all okSize = true) (h : goodCols sizes t.cl = true) : 1 ≤ wid sizes t ∧ wid sizes t ≤ 216 := by
  have := cols_bound hok h t.cl.length (Nat.le_refl _)
  rwa [List.take_of_length_le (by simp [dimsOf])] at this
theorem wid_s {sizes : List Int} {t : Tb} {sv : V} {H : Heap} (hs : VI sv sizes) (ht : TbOk t) (hok : sizes.all okSize = true) (h : goodCols sizes t.cl = true) : Ans (.fn 34 [] []) [sv, t.cv] H (.int .i64 (wid sizes t)) :=
  width_s hs ht.cols (goodCols_in h).2 (fun k hk => by have := cols_bound hok h k hk; omega)

/-! ### what is asked of a table -/
def tOk (sizes : List Int) (ns : List (List UInt8)) (t : Tb) : Bool := [nameOk t.name, !ns.contains t.name, decide (0 ≤ t.kind) && decide (t.kind ≤ 5), goodCols sizes t.cl, rangedB t].all id
def sumB (b : Bool) (sizes : List Int) (ts : List Tb) : Int := (ts.map fun t => if strictB t == b then wid sizes t else 0).sum
def firstOk (sizes : List Int) (pre : List Tb) (t : Tb) : Bool := t.first == sumB (strictB t) sizes pre
def tFits (sizes : List Int) (pre : List Tb) (t : Tb) : Bool := tOk sizes (pre.map (·.name)) t && firstOk sizes pre t

def F15Pa : ACode := .region [⟨some (27, false), .indexAddr 6 (.var 23) (.var 25), none⟩, ⟨some (28, false), .load (some 6) (.tmp 27), none⟩, ⟨some (9, true), .alloc [.str [], .int .i64 0, .nil0, .int .i64 0, .int .i64 0, .int .i64 0], none⟩, ⟨none, .store 6 (.var 9) (.tmp 28), none⟩] none
def F15Pb : ACode := .seq (.region [⟨some (29, false), .fieldAddr 0 (.var 9), none⟩, ⟨some (30, false), .load none (.tmp 29), none⟩, ⟨some (31, false), .call false (.func 40) [(.tmp 30)], none⟩, ⟨some (32, false), .mv (.var 5), none⟩, ⟨some (33, false), .fieldAddr 0 (.var 9), none⟩, ⟨some (34, false), .load none (.tmp 33), none⟩, ⟨some (35, false), .lookup 1 (.bool false) (.tmp 32) (.tmp 34) false, none⟩, ⟨some (36, false), .un .not (.tmp 35), none⟩, ⟨some (37, false), .fieldAddr 1 (.var 9), none⟩, ⟨some (38, false), .load none (.tmp 37), none⟩, ⟨some (39, false), .call false (.func 41) [(.tmp 38), (.const (.int .i64 0)), (.const (.int .i64 5))], none⟩, ⟨some (40, false), .mv (.var 0), none⟩, ⟨some (41, false), .fieldAddr 2 (.var 9), none⟩, ⟨some (42, false), .load none (.tmp 41), none⟩, ⟨some (43, false), .call false (.func 42) [(.tmp 40), (.tmp 42)], none⟩, ⟨some (44, false), .load (some 6) (.var 9), none⟩, ⟨some (45, false), .call false (.func 43) [(.tmp 44)], none⟩, ⟨some (46, false), .lit 1 [.bool false] 5 [(0, (.tmp 31)), (1, (.tmp 36)), (2, (.tmp 39)), (3, (.tmp 43)), (4, (.tmp 45))] true, none⟩, ⟨some (47, false), .call false (.func 38) [(.tmp 46)], none⟩, ⟨some (48, true), .un .not (.tmp 47), none⟩] (some [0, 1, 3, 0, 0, 16, 56, 120, 0, 256, 775, 0, 0, 4096, 16135, 0, 65287, 131071, 262143, 524287])) (.cond (.var 48) (.seq (.region [⟨some (4, true), .mv (.const (.bool false)), none⟩] none) (.ret)) (.skip))
def F15Pc : ACode := .region [⟨some (49, false), .mv (.var 5), none⟩, ⟨some (50, false), .fieldAddr 0 (.var 9), none⟩, ⟨some (51, false), .load none (.tmp 50), none⟩, ⟨none, .mapUpd 1 (.tmp 49) (.tmp 51) (.const (.bool true)), none⟩] none
def F15Pd : ACode := .region [⟨some (10, true), .mv (.var 7), none⟩] none
def F15Pe : ACode := .seq (.region [⟨some (52, false), .load (some 6) (.var 9), none⟩, ⟨some (53, true), .call false (.func 33) [(.tmp 52)], none⟩] none) (.cond (.var 53) (.region [⟨some (10, true), .mv (.var 6), none⟩] none) (.skip))
def F15Pf : ACode := .seq (.region [⟨some (54, false), .fieldAddr 5 (.var 9), none⟩, ⟨some (55, false), .load none (.tmp 54), none⟩, ⟨some (56, false), .mv (.var 10), none⟩, ⟨some (57, false), .nilCheck (.tmp 56), none⟩, ⟨some (58, false), .load none (.tmp 57), none⟩, ⟨some (59, true), .bin .neq (.tmp 55) (.tmp 58), none⟩] (some [0, 1, 0, 4, 12, 31])) (.cond (.var 59) (.seq (.region [⟨some (4, true), .mv (.const (.bool false)), none⟩] none) (.ret)) (.skip))
def F15Pg : ACode := .region [⟨some (60, false), .mv (.var 10), none⟩, ⟨some (61, false), .nilCheck (.tmp 60), none⟩, ⟨some (62, false), .load none (.tmp 61), none⟩, ⟨some (63, false), .mv (.var 0), none⟩, ⟨some (64, false), .fieldAddr 2 (.var 9), none⟩, ⟨some (65, false), .load none (.tmp 64), none⟩, ⟨some (66, false), .call false (.func 34) [(.tmp 63), (.tmp 65)], none⟩, ⟨some (67, false), .bin .add (.tmp 62) (.tmp 66), none⟩, ⟨some (68, false), .nilCheck (.tmp 60), none⟩, ⟨none, .store 1 (.tmp 68) (.tmp 67), none⟩] (some [0, 1, 3, 0, 0, 16, 56, 127, 255, 511])
theorem F15L0_parts : F15L0 = .seq F15Pa (.seq F15Pb (.seq F15Pc (.seq F15Pd (.seq F15Pe (.seq F15Pf (F15Pg)))))) := rfl

/-- The heap while cells.Valid runs. -/
structure VH (n : Nat) (H : Heap) (ns : List (List UInt8)) (a b : Int) : Prop where
  len : n + 3 ≤ H.length
  m : H[n]? = some (.map (mapS ns))
  s : H[n + 1]? = some (.cells [.int .i64 a])
  c : H[n + 2]? = some (.cells [.int .i64 b])

def keepV (e e' : Env) : Prop := ∀ s, s ≠ 4 → s ≠ 9 → s ≠ 10 → s ≠ 48 → s ≠ 53 → s ≠ 59 → lookupE e' s = lookupE e s
theorem keepV.trans {a b c : Env} (h1 : keepV a b) (h2 : keepV b c) : keepV a c := fun s x1 x2 x3 x4 x5 x6 => (h2 s x1 x2 x3 x4 x5 x6).trans (h1 s x1 x2 x3 x4 x5 x6)

section
variable {sizes : List Int} {sv tv : V} {ts : List Tb} {n k : Nat} {t : Tb} {ns : List (List UInt8)} {a b : Int} {H : Heap} {st : St}

theorem v_a (hsl : slE 6 tv = true) (hg : (el tv)[k]? = some t.v) (ht : TbOk t) (h1 : st.H = H) (hlow : st.low = n) (hn : n ≤ H.length) (l23 : lookupE st.vE 23 = tv) (l25 : lookupE st.vE 25 = .int .i64 k) :
    ∃ st', execL tab F15Pa st = some (.normal, st') ∧ st'.H = H ++ [.cells t.cells] ∧ st'.low = n ∧ lookupE st'.vE 9 = .ptr H.length 0 ∧ keepV st.vE st'.vE := by
  have hco := ht.cells
  have hset : setCells [V.str [], .int .i64 0, .nil0, .int .i64 0, .int .i64 0, .int .i64 0] 0 t.cells = t.cells := rfl
  refine ⟨_, by simp [F15Pa, callBody, zipE, execL_seq, execL_region, execL_cond, execL_skip, execL_ret, execL_exit, execL_block, execOps, wantedA, S_mv, S_pick, S_bin, S_un, S_call0, S_call1, S_extract, S_nilEq, S_load, S_alloc, Opd.ev, lookupE, lookE_setE, St.put, binA, unA, boolOf, freezeVs, freezeV, freeze1, isP, isPs, resultsA, resultA, finish, old, olds, flat, movedH_same, Nat.min_self, loadA, readCells, cellsV_int, l23, l25, S_index, hsl, hg, Tb.v, cellsV_agg, Tb.len, Tb.t6, S_store, storeA, hco, hset, h1, hlow]; rfl, ?_⟩
  exact ⟨by simp, by first | (simp; done) | (simp; omega), by simp [lookE_setE], fun s x1 x2 x3 x4 x5 x6 => by simp [lookE_setE, x2]⟩

set_option maxHeartbeats 1000000 in
theorem v_b {p : Nat} (hs : VI sv sizes) (ht : TbOk t) (h1 : st.H = H) (hv : VH n H ns a b) (hp : H[p]? = some (.cells t.cells)) (hlow : st.low = n) (l0 : lookupE st.vE 0 = sv) (l5 : lookupE st.vE 5 = .map n) (l9 : lookupE st.vE 9 = .ptr p 0) :
    ∃ x st', execL tab F15Pb st = some (x, st') ∧ st'.H = H ∧ st'.low = n ∧ ((x = .normal ∧ tOk sizes ns t = true ∧ keepV st.vE st'.vE ∧ lookupE st'.vE 9 = .ptr p 0) ∨ (x = .ret ∧ tOk sizes ns t = false ∧ lookupE st'.vE 4 = .bool false)) := by
  have hn : n ≤ H.length := by have := hv.len; omega
  have n0 : min n H.length = n := Nat.min_eq_left hn
  have c1 := name_s t.name H
  have c2 := within_s t.kind 0 5 H
  have c3 := columned_s (H := H) hs ht.cols
  have c4 := ranged_s ht H
  have c5 := all_s [nameOk t.name, !ns.contains t.name, decide (0 ≤ t.kind) && decide (t.kind ≤ 5), goodCols sizes t.cl, rangedB t] H (by simp)
  have hf := find_mapS ns t.name
  unfold Ans at c1 c3 c4 c5
  simp only [List.map_cons, List.map_nil] at c5
  rw [show (decide (t.cl.length ≤ 3) && !t.cl.any (badCol sizes)) = goodCols sizes t.cl from rfl] at c3
  have hm := hv.m
  have hmE : ∀ h : n < H.length, H[n]'h = .map (mapS ns) := fun h => by rw [List.getElem?_eq_getElem h] at hm; exact Option.some.inj hm
  have hpE : ∀ h : p < H.length, H[p]'h = .cells t.cells := fun h => by rw [List.getElem?_eq_getElem h] at hp; exact Option.some.inj hp
  have hsp := hs.isP
  have hcp := ht.cols.isP
  have htp := ht.isP
  have c4 : callL tab (.fn 43 [] []) [.agg t.cells] H = some (.bool (rangedB t), H, H.length) := c4
  unfold tOk
  generalize hR : [nameOk t.name, !ns.contains t.name, decide (0 ≤ t.kind) && decide (t.kind ≤ 5), goodCols sizes t.cl, rangedB t].all id = R at *
  generalize nameOk t.name = A at *
  generalize (decide (0 ≤ t.kind) && decide (t.kind ≤ 5)) = B at *
  generalize goodCols sizes t.cl = Cc at *
  generalize rangedB t = D at *
  have fin : ∀ N, findEnt 1 (V.str t.name) (mapS ns) = some (if N then some (.bool true) else none) → callL tab (.fn 38 [] []) [.list 1 [.bool A, .bool !N, .bool B, .bool Cc, .bool D]] H = some (.bool R, H, H.length) →
      ∃ x st', execL tab F15Pb st = some (x, st') ∧ st'.H = H ∧ st'.low = n ∧ ((x = .normal ∧ R = true ∧ keepV st.vE st'.vE ∧ lookupE st'.vE 9 = .ptr p 0) ∨ (x = .ret ∧ R = false ∧ lookupE st'.vE 4 = .bool false)) := by
    intro N hf c5
    cases N <;> cases R <;> simp only [Bool.not_false, Bool.not_true] at c5
    · refine ⟨.ret, _, by simp [F15Pb, callBody, zipE, execL_seq, execL_region, execL_cond, execL_skip, execL_ret, execL_exit, execL_block, execOps, wantedA, S_mv, S_pick, S_bin, S_un, S_call0, S_call1, S_extract, S_nilEq, S_load, S_alloc, Opd.ev, lookupE, lookE_setE, St.put, binA, unA, boolOf, freezeVs, freezeV, freeze1, isP, isPs, resultsA, resultA, finish, old, olds, flat, movedH_same, Nat.min_self, loadA, readCells, cellsV_int, h1, l0, l5, l9, hm, hmE, hp, hpE, S_fieldAddr, Tb.c0, Tb.e0, Tb.c1, Tb.e1, Tb.c2, Tb.e2, Tb.len, Tb.t6, c1, c2, c3, c4, S_lookup, S_lit, step, hf, hsp, hcp, htp, fillL, zeroElem, cellsV, cellsOk, cellOk, inOrder, c5, n0, hlow]; rfl, ?_⟩
      exact ⟨rfl, by first | (simp; done) | (simp; omega), .inr ⟨rfl, rfl, by simp [lookE_setE]⟩⟩
    · refine ⟨.normal, _, by simp [F15Pb, callBody, zipE, execL_seq, execL_region, execL_cond, execL_skip, execL_ret, execL_exit, execL_block, execOps, wantedA, S_mv, S_pick, S_bin, S_un, S_call0, S_call1, S_extract, S_nilEq, S_load, S_alloc, Opd.ev, lookupE, lookE_setE, St.put, binA, unA, boolOf, freezeVs, freezeV, freeze1, isP, isPs, resultsA, resultA, finish, old, olds, flat, movedH_same, Nat.min_self, loadA, readCells, cellsV_int, h1, l0, l5, l9, hm, hmE, hp, hpE, S_fieldAddr, Tb.c0, Tb.e0, Tb.c1, Tb.e1, Tb.c2, Tb.e2, Tb.len, Tb.t6, c1, c2, c3, c4, S_lookup, S_lit, step, hf, hsp, hcp, htp, fillL, zeroElem, cellsV, cellsOk, cellOk, inOrder, c5, n0, hlow]; rfl, ?_⟩
      exact ⟨rfl, by first | (simp; done) | (simp; omega), .inl ⟨rfl, rfl, fun s x1 x2 x3 x4 x5 x6 => by simp [lookE_setE, x4], by simp [lookE_setE, l9]⟩⟩
    · refine ⟨.ret, _, by simp [F15Pb, callBody, zipE, execL_seq, execL_region, execL_cond, execL_skip, execL_ret, execL_exit, execL_block, execOps, wantedA, S_mv, S_pick, S_bin, S_un, S_call0, S_call1, S_extract, S_nilEq, S_load, S_alloc, Opd.ev, lookupE, lookE_setE, St.put, binA, unA, boolOf, freezeVs, freezeV, freeze1, isP, isPs, resultsA, resultA, finish, old, olds, flat, movedH_same, Nat.min_self, loadA, readCells, cellsV_int, h1, l0, l5, l9, hm, hmE, hp, hpE, S_fieldAddr, Tb.c0, Tb.e0, Tb.c1, Tb.e1, Tb.c2, Tb.e2, Tb.len, Tb.t6, c1, c2, c3, c4, S_lookup, S_lit, step, hf, hsp, hcp, htp, fillL, zeroElem, cellsV, cellsOk, cellOk, inOrder, c5, n0, hlow]; rfl, ?_⟩
      exact ⟨rfl, by first | (simp; done) | (simp; omega), .inr ⟨rfl, rfl, by simp [lookE_setE]⟩⟩
    · refine ⟨.normal, _, by simp [F15Pb, callBody, zipE, execL_seq, execL_region, execL_cond, execL_skip, execL_ret, execL_exit, execL_block, execOps, wantedA, S_mv, S_pick, S_bin, S_un, S_call0, S_call1, S_extract, S_nilEq, S_load, S_alloc, Opd.ev, lookupE, lookE_setE, St.put, binA, unA, boolOf, freezeVs, freezeV, freeze1, isP, isPs, resultsA, resultA, finish, old, olds, flat, movedH_same, Nat.min_self, loadA, readCells, cellsV_int, h1, l0, l5, l9, hm, hmE, hp, hpE, S_fieldAddr, Tb.c0, Tb.e0, Tb.c1, Tb.e1, Tb.c2, Tb.e2, Tb.len, Tb.t6, c1, c2, c3, c4, S_lookup, S_lit, step, hf, hsp, hcp, htp, fillL, zeroElem, cellsV, cellsOk, cellOk, inOrder, c5, n0, hlow]; rfl, ?_⟩
      exact ⟨rfl, by first | (simp; done) | (simp; omega), .inl ⟨rfl, rfl, fun s x1 x2 x3 x4 x5 x6 => by simp [lookE_setE, x4], by simp [lookE_setE, l9]⟩⟩
  exact fin _ hf c5

theorem VH.set_m {n : Nat} {H : Heap} {ns : List (List UInt8)} {a b : Int} (h : VH n H ns a b) (s : List UInt8) : VH n (H.set n (.map (mapS (ns ++ [s])))) (ns ++ [s]) a b := by
  have := h.len
  exact ⟨by simpa using h.len, by rw [List.getElem?_set_self (by omega)], by rw [List.getElem?_set_ne (by omega)]; exact h.s, by rw [List.getElem?_set_ne (by omega)]; exact h.c⟩
theorem VH.set_s {n : Nat} {H : Heap} {ns : List (List UInt8)} {a b : Int} (h : VH n H ns a b) (c : Int) : VH n (H.set (n + 1) (.cells [.int .i64 c])) ns c b := by
  have := h.len
  exact ⟨by simpa using h.len, by rw [List.getElem?_set_ne (by omega)]; exact h.m, by rw [List.getElem?_set_self (by omega)], by rw [List.getElem?_set_ne (by omega)]; exact h.c⟩
theorem VH.set_c {n : Nat} {H : Heap} {ns : List (List UInt8)} {a b : Int} (h : VH n H ns a b) (c : Int) : VH n (H.set (n + 2) (.cells [.int .i64 c])) ns a c := by
  have := h.len
  exact ⟨by simpa using h.len, by rw [List.getElem?_set_ne (by omega)]; exact h.m, by rw [List.getElem?_set_ne (by omega)]; exact h.s, by rw [List.getElem?_set_self (by omega)]⟩
theorem VH.app {n : Nat} {H : Heap} {ns : List (List UInt8)} {a b : Int} (h : VH n H ns a b) (t : Heap) : VH n (H ++ t) ns a b :=
  ⟨by have := h.len; simp; omega, get_app h.m t, get_app h.s t, get_app h.c t⟩

theorem v_c {p : Nat} (h1 : st.H = H) (hv : VH n H ns a b) (hp : H[p]? = some (.cells t.cells)) (hlow : st.low = n) (l5 : lookupE st.vE 5 = .map n) (l9 : lookupE st.vE 9 = .ptr p 0) :
    ∃ st', execL tab F15Pc st = some (.normal, st') ∧ st'.H = H.set n (.map (mapS (ns ++ [t.name]))) ∧ st'.low = n ∧ keepV st.vE st'.vE ∧ lookupE st'.vE 9 = .ptr p 0 := by
  have hn : n ≤ H.length := by have := hv.len; omega
  have n0 : min n H.length = n := Nat.min_eq_left hn
  have hf := find_mapS ns t.name
  have hm := hv.m
  have hmE : ∀ h : n < H.length, H[n]'h = .map (mapS ns) := fun h => by rw [List.getElem?_eq_getElem h] at hm; exact Option.some.inj hm
  have hpE : ∀ h : p < H.length, H[p]'h = .cells t.cells := fun h => by rw [List.getElem?_eq_getElem h] at hp; exact Option.some.inj hp
  rw [mapS_snoc]
  refine ⟨_, by simp [F15Pc, callBody, zipE, execL_seq, execL_region, execL_cond, execL_skip, execL_ret, execL_exit, execL_block, execOps, wantedA, S_mv, S_pick, S_bin, S_un, S_call0, S_call1, S_extract, S_nilEq, S_load, S_alloc, Opd.ev, lookupE, lookE_setE, St.put, binA, unA, boolOf, freezeVs, freezeV, freeze1, isP, isPs, resultsA, resultA, finish, old, olds, flat, movedH_same, Nat.min_self, loadA, readCells, cellsV_int, h1, l5, l9, hm, hmE, hp, hpE, S_fieldAddr, Tb.c0, Tb.e0, Tb.len, S_mapUpd, step, isU, hf, n0, hlow]; rfl, rfl, ?_⟩
  exact ⟨by first | (simp; done) | (simp; omega), fun s x1 x2 x3 x4 x5 x6 => rfl, l9⟩
theorem v_d (h1 : st.H = H) (hn : n ≤ H.length) (hlow : st.low = n) (l7 : lookupE st.vE 7 = .ptr (n + 2) 0) :
    ∃ st', execL tab F15Pd st = some (.normal, st') ∧ st'.H = H ∧ st'.low = n ∧ keepV st.vE st'.vE ∧ lookupE st'.vE 10 = .ptr (n + 2) 0 ∧ lookupE st'.vE 9 = lookupE st.vE 9 := by
  refine ⟨_, by simp [F15Pd, callBody, zipE, execL_seq, execL_region, execL_cond, execL_skip, execL_ret, execL_exit, execL_block, execOps, wantedA, S_mv, S_pick, S_bin, S_un, S_call0, S_call1, S_extract, S_nilEq, S_load, S_alloc, Opd.ev, lookupE, lookE_setE, St.put, binA, unA, boolOf, freezeVs, freezeV, freeze1, isP, isPs, resultsA, resultA, finish, old, olds, flat, movedH_same, Nat.min_self, loadA, readCells, cellsV_int, h1, l7, hlow]; rfl, rfl, ?_⟩
  exact ⟨by first | (simp; done) | (simp; omega), fun s x1 x2 x3 x4 x5 x6 => by simp [lookE_setE, x3], by simp [lookE_setE], by simp [lookE_setE]⟩
theorem v_e {p : Nat} (ht : TbOk t) (h1 : st.H = H) (hn : n ≤ H.length) (hp : H[p]? = some (.cells t.cells)) (hlow : st.low = n) (l6 : lookupE st.vE 6 = .ptr (n + 1) 0) (l10 : lookupE st.vE 10 = .ptr (n + 2) 0) (l9 : lookupE st.vE 9 = .ptr p 0) :
    ∃ st', execL tab F15Pe st = some (.normal, st') ∧ st'.H = H ∧ st'.low = n ∧ keepV st.vE st'.vE ∧ lookupE st'.vE 10 = .ptr (if strictB t then n + 1 else n + 2) 0 ∧ lookupE st'.vE 9 = .ptr p 0 := by
  have c : callL tab (.fn 33 [] []) [.agg t.cells] H = some (.bool (strictB t), H, H.length) := isStrict_s ht H
  have hpE : ∀ h : p < H.length, H[p]'h = .cells t.cells := fun h => by rw [List.getElem?_eq_getElem h] at hp; exact Option.some.inj hp
  have n0 : min n H.length = n := Nat.min_eq_left hn
  cases hb : strictB t with
  | true =>
    rw [hb] at c
    refine ⟨_, by simp [F15Pe, callBody, zipE, execL_seq, execL_region, execL_cond, execL_skip, execL_ret, execL_exit, execL_block, execOps, wantedA, S_mv, S_pick, S_bin, S_un, S_call0, S_call1, S_extract, S_nilEq, S_load, S_alloc, Opd.ev, lookupE, lookE_setE, St.put, binA, unA, boolOf, freezeVs, freezeV, freeze1, isP, isPs, resultsA, resultA, finish, old, olds, flat, movedH_same, Nat.min_self, loadA, readCells, cellsV_int, h1, l6, l9, l10, hp, hpE, Tb.len, Tb.t6, ht.isP, c, n0, hlow]; rfl, rfl, ?_⟩
    exact ⟨by first | (simp; done) | (simp; omega), fun s x1 x2 x3 x4 x5 x6 => by simp [lookE_setE, x3, x5], by simp [lookE_setE], by simp [lookE_setE, l9]⟩
  | false =>
    rw [hb] at c
    refine ⟨_, by simp [F15Pe, callBody, zipE, execL_seq, execL_region, execL_cond, execL_skip, execL_ret, execL_exit, execL_block, execOps, wantedA, S_mv, S_pick, S_bin, S_un, S_call0, S_call1, S_extract, S_nilEq, S_load, S_alloc, Opd.ev, lookupE, lookE_setE, St.put, binA, unA, boolOf, freezeVs, freezeV, freeze1, isP, isPs, resultsA, resultA, finish, old, olds, flat, movedH_same, Nat.min_self, loadA, readCells, cellsV_int, h1, l6, l9, l10, hp, hpE, Tb.len, Tb.t6, ht.isP, c, n0, hlow]; rfl, rfl, ?_⟩
    exact ⟨by first | (simp; done) | (simp; omega), fun s x1 x2 x3 x4 x5 x6 => by simp [lookE_setE, x5], by simp [lookE_setE, l10], by simp [lookE_setE, l9]⟩
theorem v_f {p q : Nat} {c : Int} (h1 : st.H = H) (hn : n ≤ H.length) (hp : H[p]? = some (.cells t.cells)) (hq : H[q]? = some (.cells [.int .i64 c])) (hlow : st.low = n) (l10 : lookupE st.vE 10 = .ptr q 0) (l9 : lookupE st.vE 9 = .ptr p 0) :
    ∃ x st', execL tab F15Pf st = some (x, st') ∧ st'.H = H ∧ st'.low = n ∧ ((x = .normal ∧ (t.first == c) = true ∧ keepV st.vE st'.vE ∧ lookupE st'.vE 10 = .ptr q 0 ∧ lookupE st'.vE 9 = .ptr p 0) ∨ (x = .ret ∧ (t.first == c) = false ∧ lookupE st'.vE 4 = .bool false)) := by
  have n0 : min n H.length = n := Nat.min_eq_left hn
  have hpE : ∀ h : p < H.length, H[p]'h = .cells t.cells := fun h => by rw [List.getElem?_eq_getElem h] at hp; exact Option.some.inj hp
  have hqE : ∀ h : q < H.length, H[q]'h = .cells [.int .i64 c] := fun h => by rw [List.getElem?_eq_getElem h] at hq; exact Option.some.inj hq
  have e : (t.first != c) = !(t.first == c) := rfl
  cases hc : (t.first == c) with
  | true =>
    refine ⟨.normal, _, by simp [F15Pf, callBody, zipE, execL_seq, execL_region, execL_cond, execL_skip, execL_ret, execL_exit, execL_block, execOps, wantedA, S_mv, S_pick, S_bin, S_un, S_call0, S_call1, S_extract, S_nilEq, S_load, S_alloc, Opd.ev, lookupE, lookE_setE, St.put, binA, unA, boolOf, freezeVs, freezeV, freeze1, isP, isPs, resultsA, resultA, finish, old, olds, flat, movedH_same, Nat.min_self, loadA, readCells, cellsV_int, h1, l9, l10, hp, hpE, hq, hqE, S_fieldAddr, S_nilCheck, step, Tb.c5, Tb.e5, Tb.len, inOrder, e, hc, n0, hlow]; rfl, rfl, ?_⟩
    exact ⟨by first | (simp; done) | (simp; omega), .inl ⟨rfl, rfl, fun s x1 x2 x3 x4 x5 x6 => by simp [lookE_setE, x6], by simp [lookE_setE, l10], by simp [lookE_setE, l9]⟩⟩
  | false =>
    refine ⟨.ret, _, by simp [F15Pf, callBody, zipE, execL_seq, execL_region, execL_cond, execL_skip, execL_ret, execL_exit, execL_block, execOps, wantedA, S_mv, S_pick, S_bin, S_un, S_call0, S_call1, S_extract, S_nilEq, S_load, S_alloc, Opd.ev, lookupE, lookE_setE, St.put, binA, unA, boolOf, freezeVs, freezeV, freeze1, isP, isPs, resultsA, resultA, finish, old, olds, flat, movedH_same, Nat.min_self, loadA, readCells, cellsV_int, h1, l9, l10, hp, hpE, hq, hqE, S_fieldAddr, S_nilCheck, step, Tb.c5, Tb.e5, Tb.len, inOrder, e, hc, n0, hlow]; rfl, rfl, ?_⟩
    exact ⟨by first | (simp; done) | (simp; omega), .inr ⟨rfl, rfl, by simp [lookE_setE]⟩⟩
theorem v_g {p q : Nat} {c : Int} (hs : VI sv sizes) (ht : TbOk t) (hok : sizes.all okSize = true) (hgc : goodCols sizes t.cl = true) (h1 : st.H = H) (hn : n ≤ H.length) (hp : H[p]? = some (.cells t.cells)) (hq : H[q]? = some (.cells [.int .i64 c])) (hc : 0 ≤ c ∧ c ≤ 1000000) (hnq : n ≤ q) (hlow : st.low = n)
    (l0 : lookupE st.vE 0 = sv) (l10 : lookupE st.vE 10 = .ptr q 0) (l9 : lookupE st.vE 9 = .ptr p 0) :
    ∃ st', execL tab F15Pg st = some (.normal, st') ∧ st'.H = H.set q (.cells [.int .i64 (c + wid sizes t)]) ∧ st'.low = n ∧ keepV st.vE st'.vE := by
  have hw := wid_s (H := H) hs ht hok hgc
  unfold Ans at hw
  have hb := wid_bound hok hgc
  have n0 : min n H.length = n := Nat.min_eq_left hn
  have hpE : ∀ h : p < H.length, H[p]'h = .cells t.cells := fun h => by rw [List.getElem?_eq_getElem h] at hp; exact Option.some.inj hp
  have hqE : ∀ h : q < H.length, H[q]'h = .cells [.int .i64 c] := fun h => by rw [List.getElem?_eq_getElem h] at hq; exact Option.some.inj hq
  have hadd : IntKind.i64.wrap (c + wid sizes t) = c + wid sizes t := by rw [wrap_small] <;> omega
  have hqH : q < H.length := by
    rcases Nat.lt_or_ge q H.length with h | h
    · exact h
    · rw [List.getElem?_eq_none h] at hq; cases hq
  refine ⟨_, by simp [F15Pg, callBody, zipE, execL_seq, execL_region, execL_cond, execL_skip, execL_ret, execL_exit, execL_block, execOps, wantedA, S_mv, S_pick, S_bin, S_un, S_call0, S_call1, S_extract, S_nilEq, S_load, S_alloc, Opd.ev, lookupE, lookE_setE, St.put, binA, unA, boolOf, freezeVs, freezeV, freeze1, isP, isPs, resultsA, resultA, finish, old, olds, flat, movedH_same, Nat.min_self, loadA, readCells, cellsV_int, h1, l0, l9, l10, hp, hpE, hq, hqE, S_fieldAddr, S_nilCheck, S_store, storeA, setCells, cellsOk, cellOk, step, Tb.c2, Tb.e2, Tb.len, hs.isP, ht.cols.isP, hw, hadd, movedH, inOrder, n0, hlow, hqH, touches]; exact ⟨.inr (by decide), rfl⟩, rfl, ?_⟩
  exact ⟨by first | (simp; done) | (simp; omega), fun s x1 x2 x3 x4 x5 x6 => rfl⟩
end
end Go.Abs.T09
/- cells.Valid. -/
namespace Go.Abs.T09
open Go Go.Abs

/-- A list of tables. -/
structure VT (v : V) (ts : List Tb) : Prop where
  sl : slE 6 v = true
  el : el v = ts.map Tb.v
  lt : ts.length < 4611686018427387904
  ok : ∀ t ∈ ts, TbOk t

theorem VT.get {v : V} {ts : List Tb} (h : VT v ts) {k : Nat} {t : Tb} (e : ts[k]? = some t) : (Abs.el v)[k]? = some t.v := by rw [h.el]; simp [e]
theorem VT.len {v : V} {ts : List Tb} (h : VT v ts) : (Abs.el v).length = ts.length := by rw [h.el]; simp
theorem VT.isP {v : V} {ts : List Tb} (h : VT v ts) : isP v = true := slE_isP h.sl

def fitsAll (sizes : List Int) (ts : List Tb) : Bool := (List.range ts.length).all fun k => match ts[k]? with | some t => tFits sizes (ts.take k) t | none => true
def validB (sizes : List Int) (ts : List Tb) : Bool :=
  [decide (sizes.length ≤ 4), decide (ts.length ≤ 12), sizes.all okSize].all id && fitsAll sizes ts && (decide (sumB true sizes ts ≤ 128) && decide (sumB false sizes ts ≤ 64))

theorem fitsAll_iff {sizes : List Int} {ts : List Tb} : fitsAll sizes ts = true ↔ ∀ k t, ts[k]? = some t → tFits sizes (ts.take k) t = true := by
  unfold fitsAll
  rw [List.all_eq_true]
  constructor
  · intro h k t e
    have hk : k < ts.length := by
      rcases Nat.lt_or_ge k ts.length with h1 | h1
      · exact h1
      · rw [List.getElem?_eq_none h1] at e; cases e
    have := h k (List.mem_range.2 hk)
    rw [e] at this; exact this
  · intro h k _
    cases e : ts[k]? with
    | none => rfl
    | some t => exact h k t e
theorem sumB_succ {b : Bool} {sizes : List Int} {ts : List Tb} {k : Nat} {t : Tb} (h : ts[k]? = some t) : sumB b sizes (ts.take (k + 1)) = sumB b sizes (ts.take k) + if strictB t == b then wid sizes t else 0 := by
  unfold sumB
  rw [List.take_add_one, h]
  simp

theorem tFits_good {sizes : List Int} {pre : List Tb} {t : Tb} (h : tFits sizes pre t = true) : goodCols sizes t.cl = true := by
  simp only [tFits, tOk, List.all_cons, List.all_nil, id, Bool.and_eq_true] at h
  exact h.1.2.2.2.1

set_option maxHeartbeats 1000000 in
theorem valid_loop {sizes : List Int} {sv tv : V} {ts : List Tb} {n : Nat} (hs : VI sv sizes) (ht : VT tv ts) (hok : sizes.all okSize = true) (h12 : ts.length ≤ 12) {st : St} (hv : VH n st.H [] 0 0) (hlow : st.low = n)
    (l0 : lookupE st.vE 0 = sv) (l5 : lookupE st.vE 5 = .map n) (l6 : lookupE st.vE 6 = .ptr (n + 1) 0) (l7 : lookupE st.vE 7 = .ptr (n + 2) 0) (l23 : lookupE st.vE 23 = tv) (l24 : lookupE st.vE 24 = .int .i64 ts.length) (l25 : lookupE st.vE 25 = .int .i64 0) :
    ∃ x st', execL tab (.loop (rangeBody 26 24 25 69 1 0 F15L0)) st = some (x, st') ∧ st'.low = n ∧ n ≤ st'.H.length ∧ ((x = .exit 0 ∧ fitsAll sizes ts = true ∧ VH n st'.H (ts.map (·.name)) (sumB true sizes ts) (sumB false sizes ts) ∧ lookupE st'.vE 6 = .ptr (n + 1) 0 ∧ lookupE st'.vE 7 = .ptr (n + 2) 0) ∨ (x = .ret ∧ fitsAll sizes ts = false ∧ lookupE st'.vE 4 = .bool false)) := by
  have key := range_loop (tab := tab) (b := 26) (n := 24) (i := 25) (t := 69) (blk := 1) (ex := 0) (body := F15L0)
    (I := fun k st => VH n st.H ((ts.take k).map (·.name)) (sumB true sizes (ts.take k)) (sumB false sizes (ts.take k)) ∧ st.low = n ∧ lookupE st.vE 0 = sv ∧ lookupE st.vE 5 = .map n ∧ lookupE st.vE 6 = .ptr (n + 1) 0 ∧ lookupE st.vE 7 = .ptr (n + 2) 0 ∧ lookupE st.vE 23 = tv ∧
      lookupE st.vE 25 = .int .i64 k ∧ lookupE st.vE 24 = .int .i64 ts.length ∧ (∀ j t, j < k → ts[j]? = some t → tFits sizes (ts.take j) t = true) ∧ (∀ b, 0 ≤ sumB b sizes (ts.take k) ∧ sumB b sizes (ts.take k) ≤ 216 * (k : Int)))
    (Q := fun x st => st.low = n ∧ n ≤ st.H.length ∧ ((x = .exit 0 ∧ fitsAll sizes ts = true ∧ VH n st.H (ts.map (·.name)) (sumB true sizes ts) (sumB false sizes ts) ∧ lookupE st.vE 6 = .ptr (n + 1) 0 ∧ lookupE st.vE 7 = .ptr (n + 2) 0) ∨ (x = .ret ∧ fitsAll sizes ts = false ∧ lookupE st.vE 4 = .bool false)))
    (N := ts.length) ht.lt (by decide) (by decide)
    (fun k st h => ⟨h.2.2.2.2.2.2.2.1, h.2.2.2.2.2.2.2.2.1, by rw [h.2.1]; have := h.1.len; omega⟩)
    (by
      rintro k st hk ⟨q1, q2, q3, q4, q5, q6, q7, q8, q9, q10, q11⟩
      obtain ⟨t, het⟩ : ∃ t, ts[k]? = some t := ⟨_, List.getElem?_eq_getElem hk⟩
      have hto := ht.ok t (List.mem_of_getElem? het)
      have hg := ht.get het
      have hlen := q1.len
      obtain ⟨s1, a1, a2, a3, a4, a5⟩ := v_a (n := n) (H := st.H) (st := { st with tE := [], vE := setE st.vE 26 (.bool true) }) ht.sl hg hto rfl q2 (by omega) (by simp [lookE_setE, q7]) (by simp [lookE_setE, q8])
      have K : ∀ s, s ≠ 4 → s ≠ 9 → s ≠ 10 → s ≠ 48 → s ≠ 53 → s ≠ 59 → s ≠ 26 → lookupE s1.vE s = lookupE st.vE s := fun s x1 x2 x3 x4 x5 x6 x7 => by rw [a5 s x1 x2 x3 x4 x5 x6]; simp [lookE_setE, x7]
      have hv1 : VH n s1.H ((ts.take k).map (·.name)) (sumB true sizes (ts.take k)) (sumB false sizes (ts.take k)) := by rw [a2]; exact q1.app [.cells t.cells]
      have hp1 : s1.H[st.H.length]? = some (.cells t.cells) := by rw [a2]; simp
      obtain ⟨x2, s2, b1, b2, b3, b4⟩ := v_b (t := t) hs hto rfl hv1 hp1 a3 (by rw [K 0 (by decide) (by decide) (by decide) (by decide) (by decide) (by decide) (by decide)]; exact q3) (by rw [K 5 (by decide) (by decide) (by decide) (by decide) (by decide) (by decide) (by decide)]; exact q4) a4
      have notfit : tFits sizes (ts.take k) t = false → fitsAll sizes ts = false := fun h => by
        rw [Bool.eq_false_iff]; intro h2
        rw [fitsAll_iff.1 h2 k t het] at h; cases h
      have hl1 : n ≤ s1.H.length := by have := hv1.len; omega
      rcases b4 with ⟨rfl, b4, b5, b6⟩ | ⟨rfl, b4, b5⟩
      · -- the table is right
        have K2 : ∀ s, s ≠ 4 → s ≠ 9 → s ≠ 10 → s ≠ 48 → s ≠ 53 → s ≠ 59 → s ≠ 26 → lookupE s2.vE s = lookupE st.vE s := fun s x1 x2 x3 x4 x5 x6 x7 => (b5 s x1 x2 x3 x4 x5 x6).trans (K s x1 x2 x3 x4 x5 x6 x7)
        have hgc : goodCols sizes t.cl = true := by
          simp only [tOk, List.all_cons, List.all_nil, id, Bool.and_eq_true] at b4
          exact b4.2.2.2.1
        obtain ⟨s3, c1, c2, c3, c4, c5⟩ := v_c (t := t) b2 hv1 hp1 b3 (by rw [K2 5 (by decide) (by decide) (by decide) (by decide) (by decide) (by decide) (by decide)]; exact q4) b6
        have hv3 : VH n s3.H ((ts.take k).map (·.name) ++ [t.name]) (sumB true sizes (ts.take k)) (sumB false sizes (ts.take k)) := by rw [c2]; exact hv1.set_m t.name
        have hp3 : s3.H[st.H.length]? = some (.cells t.cells) := by rw [c2, List.getElem?_set_ne (by omega)]; exact hp1
        have hl3 : n ≤ s3.H.length := by have := hv3.len; omega
        have K3 : ∀ s, s ≠ 4 → s ≠ 9 → s ≠ 10 → s ≠ 48 → s ≠ 53 → s ≠ 59 → s ≠ 26 → lookupE s3.vE s = lookupE st.vE s := fun s x1 x2 x3 x4 x5 x6 x7 => (c4 s x1 x2 x3 x4 x5 x6).trans (K2 s x1 x2 x3 x4 x5 x6 x7)
        obtain ⟨s4, d1, d2, d3, d4, d5, d6⟩ := v_d (n := n) rfl hl3 c3 (by rw [K3 7 (by decide) (by decide) (by decide) (by decide) (by decide) (by decide) (by decide)]; exact q6)
        have K4 : ∀ s, s ≠ 4 → s ≠ 9 → s ≠ 10 → s ≠ 48 → s ≠ 53 → s ≠ 59 → s ≠ 26 → lookupE s4.vE s = lookupE st.vE s := fun s x1 x2 x3 x4 x5 x6 x7 => (d4 s x1 x2 x3 x4 x5 x6).trans (K3 s x1 x2 x3 x4 x5 x6 x7)
        obtain ⟨s5, e1, e2, e3, e4, e5, e6⟩ := v_e hto d2 hl3 hp3 d3 (by rw [K4 6 (by decide) (by decide) (by decide) (by decide) (by decide) (by decide) (by decide)]; exact q5) d5 (by rw [d6]; exact c5)
        have K5 : ∀ s, s ≠ 4 → s ≠ 9 → s ≠ 10 → s ≠ 48 → s ≠ 53 → s ≠ 59 → s ≠ 26 → lookupE s5.vE s = lookupE st.vE s := fun s x1 x2 x3 x4 x5 x6 x7 => (e4 s x1 x2 x3 x4 x5 x6).trans (K4 s x1 x2 x3 x4 x5 x6 x7)
        have hq : s3.H[if strictB t = true then n + 1 else n + 2]? = some (.cells [.int .i64 (sumB (strictB t) sizes (ts.take k))]) := by
          cases hb : strictB t
          · simp; exact hv3.c
          · simp; exact hv3.s
        obtain ⟨x6, s6, f1, f2, f3, f4⟩ := v_f (t := t) (n := n) e2 hl3 hp3 hq e3 e5 e6
        rcases f4 with ⟨rfl, f4, f5, f6, f7⟩ | ⟨rfl, f4, f5⟩
        · have K6 : ∀ s, s ≠ 4 → s ≠ 9 → s ≠ 10 → s ≠ 48 → s ≠ 53 → s ≠ 59 → s ≠ 26 → lookupE s6.vE s = lookupE st.vE s := fun s x1 x2 x3 x4 x5 x6 x7 => (f5 s x1 x2 x3 x4 x5 x6).trans (K5 s x1 x2 x3 x4 x5 x6 x7)
          have hbd := q11 (strictB t)
          obtain ⟨s7, g1, g2, g3, g4⟩ := v_g (n := n) hs hto hok hgc f2 hl3 hp3 hq (by omega) (by split <;> omega) f3 (by rw [K6 0 (by decide) (by decide) (by decide) (by decide) (by decide) (by decide) (by decide)]; exact q3) f6 f7
          have K7 : ∀ s, s ≠ 4 → s ≠ 9 → s ≠ 10 → s ≠ 48 → s ≠ 53 → s ≠ 59 → s ≠ 26 → lookupE s7.vE s = lookupE st.vE s := fun s x1 x2 x3 x4 x5 x6 x7 => (g4 s x1 x2 x3 x4 x5 x6).trans (K6 s x1 x2 x3 x4 x5 x6 x7)
          have hfit : tFits sizes (ts.take k) t = true := by simp only [tFits, firstOk, Bool.and_eq_true]; exact ⟨b4, f4⟩
          have hw := wid_bound hok hgc
          refine ⟨.normal, s7, ?_, ?_⟩
          · rw [F15L0_parts, execL_seq, a1]
            simp only []
            rw [execL_seq, b1]
            simp only []
            rw [execL_seq, c1]
            simp only []
            rw [execL_seq, d1]
            simp only []
            rw [execL_seq, e1]
            simp only []
            rw [execL_seq, f1]
            simp only []
            exact g1
          · simp only [true_or, if_true]
            have hv7 : VH n s7.H ((ts.take (k + 1)).map (·.name)) (sumB true sizes (ts.take (k + 1))) (sumB false sizes (ts.take (k + 1))) := by
              rw [g2, sumB_succ het, sumB_succ het, List.take_add_one, het]
              simp only [Option.toList_some, List.map_append, List.map_cons, List.map_nil]
              cases hb : strictB t
              · simp only [if_neg (show ¬ (false = true) by decide), beq_iff_eq, reduceCtorEq, if_false, Int.add_zero, if_true]
                exact hv3.set_c _
              · simp only [if_true, beq_iff_eq, reduceCtorEq, if_false, Int.add_zero]
                exact hv3.set_s _
            have hl7 : n + 3 ≤ s7.H.length := hv7.len
            refine ⟨by rw [K7 25 (by decide) (by decide) (by decide) (by decide) (by decide) (by decide) (by decide)]; exact q8, by rw [g3]; omega, hv7, g3, ?_, ?_, ?_, ?_, ?_, ?_, ?_, ?_, ?_⟩
            · simp only [lookE_setE]; rw [K7 0 (by decide) (by decide) (by decide) (by decide) (by decide) (by decide) (by decide)]; simpa using q3
            · simp only [lookE_setE]; rw [K7 5 (by decide) (by decide) (by decide) (by decide) (by decide) (by decide) (by decide)]; simpa using q4
            · simp only [lookE_setE]; rw [K7 6 (by decide) (by decide) (by decide) (by decide) (by decide) (by decide) (by decide)]; simpa using q5
            · simp only [lookE_setE]; rw [K7 7 (by decide) (by decide) (by decide) (by decide) (by decide) (by decide) (by decide)]; simpa using q6
            · simp only [lookE_setE]; rw [K7 23 (by decide) (by decide) (by decide) (by decide) (by decide) (by decide) (by decide)]; simpa using q7
            · simp [lookE_setE]
            · simp only [lookE_setE]; rw [K7 24 (by decide) (by decide) (by decide) (by decide) (by decide) (by decide) (by decide)]; simpa using q9
            · intro j t' hj e
              rcases Nat.lt_or_ge j k with h | h
              · exact q10 j t' h e
              · have : j = k := by omega
                subst this
                rw [het] at e; cases e; exact hfit
            · intro b
              have := q11 b
              rw [sumB_succ het]
              split <;> omega
        · refine ⟨.ret, s6, ?_, ?_⟩
          · rw [F15L0_parts, execL_seq, a1]
            simp only []
            rw [execL_seq, b1]
            simp only []
            rw [execL_seq, c1]
            simp only []
            rw [execL_seq, d1]
            simp only []
            rw [execL_seq, e1]
            simp only []
            rw [execL_seq, f1]
          · simp only [reduceCtorEq, or_self, if_false]
            exact ⟨f3, by rw [f2]; exact hl3, .inr ⟨trivial, notfit (by simp only [tFits, firstOk, f4, Bool.and_false]), f5⟩⟩
      · refine ⟨.ret, s2, ?_, ?_⟩
        · rw [F15L0_parts, execL_seq, a1]
          simp only []
          rw [execL_seq, b1]
        · simp only [reduceCtorEq, or_self, if_false]
          exact ⟨b3, by rw [b2]; exact hl1, .inr ⟨trivial, notfit (by simp only [tFits, b4, Bool.false_and]), b5⟩⟩)
    (by
      rintro st ⟨q1, q2, q3, q4, q5, q6, q7, q8, q9, q10, q11⟩
      rw [List.take_length] at q1
      refine ⟨q2, by have := q1.len; show n ≤ st.H.length; omega, .inl ⟨rfl, ?_, q1, by simp [lookE_setE, q5], by simp [lookE_setE, q6]⟩⟩
      rw [fitsAll_iff]
      intro k t e
      have hk : k < ts.length := by
        rcases Nat.lt_or_ge k ts.length with h1 | h1
        · exact h1
        · rw [List.getElem?_eq_none h1] at e; cases e
      exact q10 k t hk e)
  exact key ts.length 0 st (by omega) ⟨hv, hlow, l0, l5, l6, l7, l23, l25, l24, fun j t hj => absurd hj (by omega), fun b => by simp [sumB]⟩

set_option maxHeartbeats 1000000 in
theorem valid_s {sizes : List Int} {sv tv : V} {ts : List Tb} (hs : VI sv sizes) (ht : VT tv ts) (H : Heap) : Ans (.fn 15 [] []) [sv, tv] H (.bool (validB sizes ts)) := by
  have hsz := sized_s (H := H) hs
  rw [show (sizes.all fun n => decide (1 ≤ n) && decide (n ≤ 6)) = sizes.all okSize from rfl] at hsz
  have hall := all_s [decide (sizes.length ≤ 4), decide (ts.length ≤ 12), sizes.all okSize] H (by simp)
  unfold Ans at *
  simp only [List.map_cons, List.map_nil] at hall
  have e1 : decide ((sizes.length : Int) ≤ 4) = decide (sizes.length ≤ 4) := by rw [decide_eq_decide]; omega
  have e2 : decide ((ts.length : Int) ≤ 12) = decide (ts.length ≤ 12) := by rw [decide_eq_decide]; omega
  rw [callL_fn, show tab 15 = some (.code F15) from rfl]
  unfold validB
  cases hR : [decide (sizes.length ≤ 4), decide (ts.length ≤ 12), sizes.all okSize].all id with
  | false =>
    rw [hR] at hall
    simp [F15, callBody, zipE, execL_seq, execL_region, execL_cond, execL_skip, execL_ret, execL_exit, execL_block, execOps, wantedA, S_mv, S_pick, S_bin, S_un, S_call0, S_call1, S_extract, S_nilEq, S_load, S_alloc, S_box, Opd.ev, lookupE, setE, St.put, binA, unA, boolOf, freezeVs, freezeV, freeze1, isP, isPs, resultsA, resultA, finish, old, olds, flat, movedH_same, Nat.min_self, loadA, readCells, cellsV, S_len 1, S_len 6, hs.sl, hs.len, ht.sl, ht.len, hs.isP, hsz, e1, e2, S_lit, step, fillL, zeroElem, cellsOk, cellOk, hall]
  | true =>
    have h12 : ts.length ≤ 12 ∧ sizes.all okSize = true := by
      simp only [List.all_cons, List.all_nil, id, Bool.and_eq_true, decide_eq_true_eq] at hR
      exact ⟨hR.2.1, hR.2.2.1⟩
    rw [hR] at hall
    obtain ⟨x, st', r1, r2, r2', r3⟩ := valid_loop hs ht h12.2 h12.1 (n := H.length)
      (st := { tE := [], vE := [(0, sv), (1, tv), (4, .bool false), (21, .bool false), (5, .map H.length), (6, .ptr (H.length + 1) 0), (7, .ptr (H.length + 2) 0), (23, tv), (24, .int .i64 ts.length), (25, .int .i64 0)],
               H := H ++ [.map [], .cells [.int .i64 0], .cells [.int .i64 0]], low := H.length })
      ⟨by simp, by rw [get_off0]; rfl, by rw [get_off]; rfl, by rw [get_off]; rfl⟩ rfl rfl rfl rfl rfl rfl rfl rfl
    rcases r3 with ⟨rfl, r3, r4, r5, r6⟩ | ⟨rfl, r3, r4⟩
    · have g1 := r4.s
      have g2 := r4.c
      have g1E : ∀ h : H.length + 1 < st'.H.length, st'.H[H.length + 1]'h = .cells [.int .i64 (sumB true sizes ts)] := fun h => by rw [List.getElem?_eq_getElem h] at g1; exact Option.some.inj g1
      have g2E : ∀ h : H.length + 2 < st'.H.length, st'.H[H.length + 2]'h = .cells [.int .i64 (sumB false sizes ts)] := fun h => by rw [List.getElem?_eq_getElem h] at g2; exact Option.some.inj g2
      have hmin : min H.length st'.H.length = H.length := Nat.min_eq_left r2'
      by_cases hS : sumB true sizes ts ≤ 128
      · simp [F15, callBody, zipE, execL_seq, execL_region, execL_cond, execL_skip, execL_ret, execL_exit, execL_block, execOps, wantedA, S_mv, S_pick, S_bin, S_un, S_call0, S_call1, S_extract, S_nilEq, S_load, S_alloc, S_box, Opd.ev, lookupE, setE, St.put, binA, unA, boolOf, freezeVs, freezeV, freeze1, isP, isPs, resultsA, resultA, finish, old, olds, flat, movedH_same, Nat.min_self, loadA, readCells, cellsV, S_len 1, S_len 6, hs.sl, hs.len, ht.sl, ht.len, hs.isP, hsz, e1, e2, S_lit, S_mkMap, S_store, storeA, setCells, step, fillL, zeroElem, cellsOk, cellOk, hall, get_off, get_off0, set_off, set_off0, r1, r2, r3, r5, r6, g1, g1E, g2, g2E, hS, hmin, lookE_setE]
      · simp [F15, callBody, zipE, execL_seq, execL_region, execL_cond, execL_skip, execL_ret, execL_exit, execL_block, execOps, wantedA, S_mv, S_pick, S_bin, S_un, S_call0, S_call1, S_extract, S_nilEq, S_load, S_alloc, S_box, Opd.ev, lookupE, setE, St.put, binA, unA, boolOf, freezeVs, freezeV, freeze1, isP, isPs, resultsA, resultA, finish, old, olds, flat, movedH_same, Nat.min_self, loadA, readCells, cellsV, S_len 1, S_len 6, hs.sl, hs.len, ht.sl, ht.len, hs.isP, hsz, e1, e2, S_lit, S_mkMap, S_store, storeA, setCells, step, fillL, zeroElem, cellsOk, cellOk, hall, get_off, get_off0, set_off, set_off0, r1, r2, r3, r5, r6, g1, g1E, g2, g2E, hS, hmin, lookE_setE]
    · simp [F15, callBody, zipE, execL_seq, execL_region, execL_cond, execL_skip, execL_ret, execL_exit, execL_block, execOps, wantedA, S_mv, S_pick, S_bin, S_un, S_call0, S_call1, S_extract, S_nilEq, S_load, S_alloc, S_box, Opd.ev, lookupE, setE, St.put, binA, unA, boolOf, freezeVs, freezeV, freeze1, isP, isPs, resultsA, resultA, finish, old, olds, flat, movedH_same, Nat.min_self, loadA, readCells, cellsV, S_len 1, S_len 6, hs.sl, hs.len, ht.sl, ht.len, hs.isP, hsz, e1, e2, S_lit, S_mkMap, S_store, storeA, setCells, step, fillL, zeroElem, cellsOk, cellOk, hall, get_off, get_off0, set_off, set_off0, r1, r2, r3, r4, lookE_setE]
end Go.Abs.T09
/- The arguments of chapter 9, read. -/
namespace Go.Abs.T09
open Go Go.Abs Go.Proofs
set_option maxRecDepth 100000

section
variable {W : World} {H : Type} {enc : TypeId × Value → H}

/-- All sizes in reach. -/
def Near (P : Program) (t : TypeId) (d : DataW H) : Prop := ∀ n ∈ d.weights P t, n ≤ reachBytes

theorem bytes3 : Tryz.prog.bytesOf 3 = 8 := by kernel_rfl
theorem cells3 : Tryz.prog.cellsOf 3 = 1 := by kernel_rfl
theorem bytes38 : 1 ≤ Tryz.prog.bytesOf 38 := of_decide_eq_true (by kernel_rfl)
theorem cells38 : Tryz.prog.cellsOf 38 = 6 := by kernel_rfl

theorem near_len {t e : TypeId} {elems spare : List (DataW H)} (ht : Tryz.prog.underlying t = some (.slice e)) (hb : 1 ≤ Tryz.prog.bytesOf e) (h : Near Tryz.prog t (.slice elems spare)) : elems.length < 4611686018427387904 := by
  have h1 := h _ (weights_len ht)
  have h2 := reachBytes_lt
  have h3 : elems.length * 1 ≤ (elems.length + spare.length) * Tryz.prog.bytesOf e := Nat.mul_le_mul (by omega) hb
  omega

theorem rd_vi {sv : V} {d : DataW H} (hn : Near Tryz.prog 22 d) (h : RD Tryz.prog 22 d [sv]) : ∃ l, VI sv l := by
  rcases rd_slice Tryz.underlying22 h with ⟨rfl, hv⟩ | ⟨elems, spare, ls, rfl, hv, hl, hr⟩
  · cases hv; exact ⟨[], rfl, rfl, by decide⟩
  · cases hv
    have hlen := near_len Tryz.underlying22 (by rw [bytes3]; decide) hn
    rw [cells3]
    have hall : ∀ l ∈ ls, ∃ n, l = [V.int .i64 n] := fun l hlm => by
      obtain ⟨i, hi⟩ := List.getElem?_of_mem hlm
      have hil : i < ls.length := by
        rcases Nat.lt_or_ge i ls.length with q | q
        · exact q
        · rw [List.getElem?_eq_none q] at hi; cases hi
      obtain ⟨d, hd⟩ : ∃ d, elems[i]? = some d := ⟨_, List.getElem?_eq_getElem (by omega)⟩
      obtain ⟨n, -, rfl, -⟩ := rd_int Tryz.underlying3 (hr i d l hd hi)
      exact ⟨n, rfl⟩
    have : ∃ ns : List Int, ls.map mkV = ns.map (.int .i64) ∧ ns.length = ls.length := by
      clear hl hr hn h
      induction ls with
      | nil => exact ⟨[], rfl, rfl⟩
      | cons l ls ih =>
        obtain ⟨n, rfl⟩ := hall l (by simp)
        obtain ⟨ns, h1, h2⟩ := ih (fun m hm => hall m (by simp [hm]))
        exact ⟨n :: ns, by simp [h1, mkV], by simp [h2]⟩
    obtain ⟨ns, h1, h2⟩ := this
    exact ⟨ns, rfl, h1, by omega⟩

theorem near_part {t : TypeId} {fs : Array Field} {parts : List (DataW H)} (ht : Tryz.prog.underlying t = some (.struct fs)) (h : Near Tryz.prog t (.agg parts)) {i : Nat} {f : Field} {d : DataW H} (hf : fs[i]? = some f) (hd : parts[i]? = some d) : Near Tryz.prog f.type d :=
  fun n hn => h n (weights_part ht hf hd n hn)
theorem near_elem {t e : TypeId} {elems spare : List (DataW H)} (ht : Tryz.prog.underlying t = some (.slice e)) (h : Near Tryz.prog t (.slice elems spare)) {i : Nat} {d : DataW H} (hd : elems[i]? = some d) : Near Tryz.prog e d :=
  fun n hn => h n (weights_elem ht hd n hn)

theorem list5 {α : Type} {l : List α} (h : l.length = 5) : ∃ a b c d e, l = [a, b, c, d, e] := by
  match l, h with
  | [a, b, c, d, e], _ => exact ⟨a, b, c, d, e, rfl⟩
theorem list2 {α : Type} {l : List α} (h : l.length = 2) : ∃ a b, l = [a, b] := by
  match l, h with
  | [a, b], _ => exact ⟨a, b, rfl⟩

theorem rd_tb {l : List V} {d : DataW H} (hn : Near Tryz.prog 38 d) (h : RD Tryz.prog 38 d l) : ∃ t : Tb, l = t.cells ∧ TbOk t := by
  obtain ⟨parts, ls, rfl, rfl, hp, hl, hr⟩ := rd_struct Tryz.underlying38 h
  obtain ⟨p0, p1, p2, p3, p4, rfl⟩ := list5 hp
  obtain ⟨l0, l1, l2, l3, l4, rfl⟩ := list5 hl
  have n0 := near_part Tryz.underlying38 hn (i := 0) rfl rfl
  have n2 := near_part Tryz.underlying38 hn (i := 2) rfl rfl
  obtain ⟨s, rfl, rfl⟩ := rd_str Tryz.underlying9 (hr 0 _ _ _ rfl rfl rfl)
  obtain ⟨k, rfl, rfl, -⟩ := rd_int Tryz.underlying3 (hr 1 _ _ _ rfl rfl rfl)
  have h2 := hr 2 _ _ _ rfl rfl rfl
  obtain ⟨ps, qs, rfl, rfl, hp3, hq3, hr3⟩ := rd_struct Tryz.underlying36 (hr 3 _ _ _ rfl rfl rfl)
  obtain ⟨r0, r1, rfl⟩ := list2 hp3
  obtain ⟨q0, q1, rfl⟩ := list2 hq3
  obtain ⟨lo, rfl, rfl, -⟩ := rd_int Tryz.underlying3 (hr3 0 _ _ _ rfl rfl rfl)
  obtain ⟨hi, rfl, rfl, -⟩ := rd_int Tryz.underlying3 (hr3 1 _ _ _ rfl rfl rfl)
  obtain ⟨f, rfl, rfl, -⟩ := rd_int Tryz.underlying3 (hr 4 _ _ _ rfl rfl rfl)
  obtain ⟨cv, rfl⟩ : ∃ cv, l2 = [cv] := by
    rcases rd_slice Tryz.underlying22 h2 with ⟨-, hv⟩ | ⟨_, _, _, -, hv, -⟩ <;> exact ⟨_, hv⟩
  obtain ⟨cl, hcl⟩ := rd_vi n2 h2
  have hs : s.length < 4611686018427387904 := by
    have := n0 s.length (by simp [DataW.weights])
    have := reachBytes_lt
    omega
  exact ⟨⟨s, k, cv, cl, lo, hi, f⟩, rfl, hcl, hs⟩

theorem rd_vt {tv : V} {d : DataW H} (hn : Near Tryz.prog 23 d) (h : RD Tryz.prog 23 d [tv]) : ∃ ts, VT tv ts := by
  rcases rd_slice Tryz.underlying23 h with ⟨rfl, hv⟩ | ⟨elems, spare, ls, rfl, hv, hl, hr⟩
  · cases hv; exact ⟨[], rfl, rfl, by decide, fun t h => by cases h⟩
  · cases hv
    have hlen := near_len Tryz.underlying23 bytes38 hn
    rw [cells38]
    have hall : ∀ l ∈ ls, ∃ t : Tb, l = t.cells ∧ TbOk t := fun l hlm => by
      obtain ⟨i, hi⟩ := List.getElem?_of_mem hlm
      have hil : i < ls.length := by
        rcases Nat.lt_or_ge i ls.length with q | q
        · exact q
        · rw [List.getElem?_eq_none q] at hi; cases hi
      obtain ⟨d, hd⟩ : ∃ d, elems[i]? = some d := ⟨_, List.getElem?_eq_getElem (by omega)⟩
      exact rd_tb (near_elem Tryz.underlying23 hn hd) (hr i d l hd hi)
    have : ∃ ts : List Tb, ls.map mkV = ts.map Tb.v ∧ ts.length = ls.length ∧ ∀ t ∈ ts, TbOk t := by
      clear hl hr hn h
      induction ls with
      | nil => exact ⟨[], rfl, rfl, fun t h => by cases h⟩
      | cons l ls ih =>
        obtain ⟨t, rfl, ht⟩ := hall l (by simp)
        obtain ⟨ts, h1, h2, h3⟩ := ih (fun m hm => hall m (by simp [hm]))
        refine ⟨t :: ts, by simp [h1]; rfl, by simp [h2], fun u hu => ?_⟩
        rcases List.mem_cons.1 hu with rfl | hu
        · exact ht
        · exact h3 u hu
    obtain ⟨ts, h1, h2, h3⟩ := this
    exact ⟨ts, rfl, h1, by omega, h3⟩

theorem frag22 : frag Tryz.prog 8 22 = true := by kernel_rfl
theorem frag23 : frag Tryz.prog 8 23 = true := by kernel_rfl
theorem lt22 : 22 < Tryz.prog.types.size := of_decide_eq_true (by kernel_rfl)
theorem lt23 : 23 < Tryz.prog.types.size := of_decide_eq_true (by kernel_rfl)

/-- The sizes that came in. -/
theorem open_sizes {b : Nat} {v : Value} (hval : Value.okWide Tryz.prog W .any b 22 v) {d : DataW H} {p : List MemPlace} {held : Bool} (hd : DataW.Trod enc Tryz.prog W 0 (fun _ => true) held 22 v d p) (hn : Near Tryz.prog 22 d) : ∃ sv l, PRel W (G0 W).I sv v ∧ VI sv l := by
  obtain ⟨sv, h1, h2⟩ := read_arg laidOut lt22 frag22 (not_agg Tryz.underlying22 hval) hd
  obtain ⟨l, hl⟩ := rd_vi hn h1
  exact ⟨sv, l, h2, hl⟩
/-- The tables that came in. -/
theorem open_tables {b : Nat} {v : Value} (hval : Value.okWide Tryz.prog W .any b 23 v) {d : DataW H} {p : List MemPlace} {held : Bool} (hd : DataW.Trod enc Tryz.prog W 0 (fun _ => true) held 23 v d p) (hn : Near Tryz.prog 23 d) : ∃ tv ts, PRel W (G0 W).I tv v ∧ VT tv ts := by
  obtain ⟨tv, h1, h2⟩ := read_arg laidOut lt23 frag23 (not_agg Tryz.underlying23 hval) hd
  obtain ⟨ts, hl⟩ := rd_vt hn h1
  exact ⟨tv, ts, h2, hl⟩
end
end Go.Abs.T09
namespace Go.Abs.T09
open Go Go.Abs
theorem awake_all : callN tab 300 (.fn 8 [] []) [] [] = some (.bool true, [], 0) := by kernel_rfl
end Go.Abs.T09
/- CellsTuples answers true. -/
namespace Go.Abs.T09
open Go Go.Abs

theorem awake_s : callL tab (.fn 8 [] []) [] [] = some (.bool true, [], 0) := callL_iff.2 ⟨300, awake_all⟩

theorem tv_VI {t : List Int} (h : t.length ≤ 1000) : VI (tv t) t ∧ cellsV (tv t) = [tv t] := ⟨⟨rfl, rfl, by omega⟩, rfl⟩

/-- What cells.Tuples returns at good columns: as many tuples as there are, in order. -/
theorem tuples_all {sv cv : V} {sizes cols : List Int} (hs : VI sv sizes) (hc : VI cv cols) (h3 : cols.length ≤ 3) (hok : sizes.all okSize = true) (hcol : cols.any (badCol sizes) = false)
    (hb : ∀ k, k ≤ cols.length → 1 ≤ prodI ((dimsOf sizes cols).take k) ∧ prodI ((dimsOf sizes cols).take k) ≤ 216) :
    ∃ (W : Nat) (LL : List V), prodI (dimsOf sizes cols) = W ∧ 1 ≤ W ∧ W ≤ 216 ∧ Ans (.fn 17 [] []) [sv, cv] [] (.list 1 LL) ∧ LL.length = W ∧ (∀ c ∈ cols, 0 ≤ c ∧ c < sizes.length) ∧ (∀ d ∈ dimsOf sizes cols, 1 ≤ d ∧ d ≤ 6) ∧
      ∀ k, k < W → ∃ v, LL[k]? = some v ∧ VI v (tk (dimsOf sizes cols) k) ∧ cellsV v = [v] := by
  have hdl : (dimsOf sizes cols).length = cols.length := by simp [dimsOf]
  have hin : ∀ c ∈ cols, 0 ≤ c ∧ c < sizes.length := fun c hc' => by
    have := List.any_eq_false.1 hcol c hc'
    simp [badCol] at this; omega
  have hd : ∀ d ∈ dimsOf sizes cols, 1 ≤ d ∧ d ≤ 6 := fun d hd' => by
    obtain ⟨c, hcm, rfl⟩ := List.mem_map.1 hd'
    obtain ⟨c0, c1⟩ := hin c hcm
    obtain ⟨s, hsz⟩ : ∃ s, sizes[c.toNat]? = some s := ⟨_, List.getElem?_eq_getElem (by omega)⟩
    have := List.all_eq_true.1 hok s (List.mem_of_getElem? hsz)
    rw [hsz]; simpa [okSize] using this
  have hfull := hb cols.length (Nat.le_refl _)
  rw [List.take_of_length_le (by rw [hdl]; exact Nat.le_refl _)] at hfull
  obtain ⟨W, hW⟩ : ∃ W : Nat, prodI (dimsOf sizes cols) = W := ⟨(prodI (dimsOf sizes cols)).toNat, by omega⟩
  rw [hW] at hfull
  have hcol' : (decide (cols.length ≤ 3) && !cols.any (badCol sizes)) = true := by simp [hcol, h3]
  have hsz : (sizes.all fun n => decide (1 ≤ n) && decide (n ≤ 6)) = true := hok
  by_cases hne : cols = []
  · subst hne
    have hW1 : W = 1 := by have : prodI (dimsOf sizes []) = 1 := rfl
                           omega
    subst hW1
    refine ⟨1, [.emp], hW, by decide, by decide, tuples_emp hs hc hsz, rfl, hin, hd, fun k hk => ?_⟩
    have : k = 0 := by omega
    subst this
    exact ⟨.emp, rfl, ⟨rfl, rfl, by simp [tk, dimsOf]⟩, rfl⟩
  · refine ⟨W, Lk (dimsOf sizes cols) W, hW, by omega, by omega, tuples_good hs hc hcol' hsz hne hW (by omega) (by omega) (fun k hk => ?_) hin hd h3, by simp [Lk], hin, hd, fun k hk => ?_⟩
    · have := hb k hk; omega
    · refine ⟨tv (tk (dimsOf sizes cols) k), by simp [Lk, hk], ?_⟩
      exact tv_VI (by rw [(tk_inR (fun d h => (hd d h).1) k).1, hdl]; omega)

set_option maxHeartbeats 2000000 in
theorem cellsTuples_s {sv cv : V} {sizes cols : List Int} (hs : VI sv sizes) (hc : VI cv cols) : callL tab (.fn 7 [] []) [sv, cv] [] = some (.bool true, [], 0) := by
  have haw := awake_s
  rw [callL_fn, show tab 7 = some (.code F7) from rfl]
  by_cases h12 : (sizes.length : Int) > 12
  · have h12' : (12 : Int) < sizes.length := h12
    simp [F7, callBody, zipE, execL_seq, execL_region, execL_cond, execL_skip, execL_ret, execL_exit, execL_block, execOps, wantedA, S_mv, S_pick, S_bin, S_un, S_call0, S_call1, S_extract, S_nilEq, S_load, S_alloc, Opd.ev, lookupE, setE, St.put, binA, unA, boolOf, freezeVs, freezeV, freeze1, isP, isPs, resultsA, resultA, finish, old, olds, flat, movedH_same, Nat.min_self, loadA, readCells, cellsV_int, haw, S_len 1, hs.sl, hs.len, h12, h12']
  · have h12' : ¬ (12 : Int) < sizes.length := h12
    by_cases h3 : (cols.length : Int) > 3
    · have h3' : (3 : Int) < cols.length := h3
      simp [F7, callBody, zipE, execL_seq, execL_region, execL_cond, execL_skip, execL_ret, execL_exit, execL_block, execOps, wantedA, S_mv, S_pick, S_bin, S_un, S_call0, S_call1, S_extract, S_nilEq, S_load, S_alloc, Opd.ev, lookupE, setE, St.put, binA, unA, boolOf, freezeVs, freezeV, freeze1, isP, isPs, resultsA, resultA, finish, old, olds, flat, movedH_same, Nat.min_self, loadA, readCells, cellsV_int, haw, S_len 1, hs.sl, hs.len, hc.sl, hc.len, h12, h12', h3, h3']
    · have h3' : ¬ (3 : Int) < cols.length := h3
      obtain ⟨x1, s1, a1, a2, a3, a4⟩ := loop1_s hs hc (st := { tE := [], vE := [(0, sv), (1, cv), (4, .bool false), (16, .bool false), (24, .bool false), (5, .int .i64 1), (25, sv), (26, .int .i64 sizes.length), (27, .int .i64 0)], H := [], low := 0 }) rfl rfl rfl rfl rfl rfl rfl rfl
      rcases a4 with ⟨rfl, hok, b0, b1, b5⟩ | ⟨rfl, b4⟩
      · obtain ⟨x2, s2, c1, c2, c3, c4⟩ := loop2_s hs hc (by omega) hok (st := { tE := [], vE := setE (setE (setE s1.vE 43 cv) 44 (.int .i64 cols.length)) 45 (.int .i64 0), H := [], low := 0, ro := s1.ro }) (by simp [lookE_setE, b0]) (by simp [lookE_setE, b1]) (by simp [lookE_setE]) (by simp [lookE_setE]) (by simp [lookE_setE]) (by simp [lookE_setE, b5]) rfl rfl
        rcases c4 with ⟨rfl, hcol, d0, d1, d5, d6⟩ | ⟨rfl, d4⟩
        · obtain ⟨W, LL, hW, hW1, hW2, hans, hlen, hin, hd, hLL⟩ := tuples_all hs hc (by omega) hok hcol d6
          unfold Ans at hans
          simp only [List.length_nil] at hans
          rw [hW] at d5
          obtain ⟨s3, e1, e2, e3, e4, e5⟩ := loop3_s hs hc hin (fun d h => (hd d h).1) hW (by omega) (lv := .list 1 LL) rfl hlen hLL
            (st := { tE := [], vE := setE (setE (setE (setE s2.vE 10 (.list 1 LL)) 72 (.list 1 LL)) 73 (.int .i64 W)) 74 (.int .i64 0), H := [], low := 0, ro := s2.ro }) (by simp [lookE_setE, d0]) (by simp [lookE_setE, d1]) (by simp [lookE_setE]) (by simp [lookE_setE]) (by simp [lookE_setE]) (by simp [lookE_setE]) (by simp [lookE_setE, d5]) rfl rfl
          have hsl : slE 1 (V.list 1 LL) = true := rfl
          have hel : (el (V.list 1 LL)).length = W := hlen
          simp [F7, callBody, zipE, execL_seq, execL_region, execL_cond, execL_skip, execL_ret, execL_exit, execL_block, execOps, wantedA, S_mv, S_pick, S_bin, S_un, S_call0, S_call1, S_extract, S_nilEq, S_load, S_alloc, S_box, Opd.ev, lookupE, setE, St.put, binA, unA, boolOf, freezeVs, freezeV, freeze1, isP, isPs, resultsA, resultA, finish, old, olds, flat, movedH_same, Nat.min_self, loadA, readCells, cellsV, lookE_setE, haw, S_len 1, hs.sl, hs.len, hc.sl, hc.len, hs.isP, hc.isP, h12, h12', h3, h3', a1, a2, a3, b0, b1, b5, c1, c2, c3, d0, d1, d5, hans, hsl, hel, e1, e2, e3, e4, e5]
        · simp [F7, callBody, zipE, execL_seq, execL_region, execL_cond, execL_skip, execL_ret, execL_exit, execL_block, execOps, wantedA, S_mv, S_pick, S_bin, S_un, S_call0, S_call1, S_extract, S_nilEq, S_load, S_alloc, S_box, Opd.ev, lookupE, setE, St.put, binA, unA, boolOf, freezeVs, freezeV, freeze1, isP, isPs, resultsA, resultA, finish, old, olds, flat, movedH_same, Nat.min_self, loadA, readCells, cellsV, lookE_setE, haw, S_len 1, hs.sl, hs.len, hc.sl, hc.len, h12, h12', h3, h3', a1, a2, a3, b0, b1, b5, c1, c2, c3, d4]
      · simp [F7, callBody, zipE, execL_seq, execL_region, execL_cond, execL_skip, execL_ret, execL_exit, execL_block, execOps, wantedA, S_mv, S_pick, S_bin, S_un, S_call0, S_call1, S_extract, S_nilEq, S_load, S_alloc, S_box, Opd.ev, lookupE, setE, St.put, binA, unA, boolOf, freezeVs, freezeV, freeze1, isP, isPs, resultsA, resultA, finish, old, olds, flat, movedH_same, Nat.min_self, loadA, readCells, cellsV, lookE_setE, haw, S_len 1, hs.sl, hs.len, hc.sl, hc.len, h12, h12', h3, h3', a1, a2, a3, b4]
end Go.Abs.T09
/- CellsTuples answers true at every input, and leaves its arguments as they were: the card. -/
namespace Go.Proofs.YteiajndkjnlmiaaGreatDoor.tuples
open Go Go.Abs Go.Abs.T09 Go.Proofs Go.ChangeShapes Go.WideShapes Go.ChangeAt Go.RowKit
set_option maxRecDepth 100000

/-- A law's answer: true, and what was there is as it was. -/
theorem post_true {H : Type} {enc : TypeId × Value → H} {f : Func} {s : ChangeSpec} {apart fresh handsOn again : Bool} {W W' : World} {args : Array Value} {ds gs : List (DataW H)} {before : List MemPlace} {G' : Gh} {H' : Heap}
    (hW : DataW.Whole enc Tryz.prog f.params.toList s.vars apart W args.toList ds gs before) (hv : s.vars = []) (hT : ∀ t ∈ f.params.toList, t < Tryz.prog.types.size) (hr : f.resultTypes = #[4])
    (hfn : (s.fn H (ds ++ gs)).results = [.lit (.bool true)]) (hfa : gs = [] → (s.fn H (ds ++ gs)).args = ds) (hfv : (s.fn H (ds ++ gs)).vars = [])
    (hR : RelH (C fun b => W.heap[b]?) id G' H' W') (ho : W'.os = W.os) (hp : W'.output = W.output) : s.post enc Tryz.prog f apart fresh handsOn again W args (.bool true) W' := by
  have hlt := hW.lt
  have hold : ∀ p ∈ before, (fun b => decide (b < W.heap.size)) p.block = true := fun p hp => by simpa using hlt p hp
  have hW0 := hW
  obtain ⟨pa, q, hA, hV, hps, hz, hn⟩ := hW
  rw [hv] at hV
  obtain ⟨hgs, rfl⟩ := trodVars_none hV
  rw [List.append_nil] at hps
  subst hps
  have hargs : ∀ sp : Nat → Bool, (∀ p ∈ before, sp p.block = true) → DataW.TrodAll enc Tryz.prog W' 0 sp true f.params.toList args.toList (s.fn H (ds ++ gs)).args before := fun sp hsp => by
    rw [hfa hgs]
    exact stays_all kids (fun h hu => slices_pos h hu) hT hA (fun q hq => sameAt_old hR (hlt q hq)) hsp
  have hvars : ∀ sp : Nat → Bool, DataW.TrodVars enc Tryz.prog W' sp s.vars (s.fn H (ds ++ gs)).vars [] := fun sp => by rw [hv, hfv]; rfl
  have hres : ∀ (b : Nat) (sp : Nat → Bool) (hd : Bool), DataW.TrodAll enc Tryz.prog W' b sp hd f.resultTypes.toList ((Value.bool true).resultList f.resultTypes.size) (s.fn H (ds ++ gs)).results [] := fun b sp hd => by
    rw [hr, hfn]
    exact trodAll_cons_mk (shut_bool Tryz.underlying4 _) trodAll_mk0
  refine ⟨ds, gs, before, [], before, [], hW0, hres _ _ _, hargs _ hold, hvars _, kept_of hR ho hp _, fun _ => ?_⟩
  refine ⟨ok_one hr rfl (okWide_bool_mk Tryz.underlying4 _), _, _, ([] ++ before) ++ [], ⟨[] ++ before, [], trodAll_append (hargs _ (fun _ _ => rfl)) (hres _ _ _), hvars _, rfl, ?_, ?_⟩, ?_⟩
  · intro b off hp'
    have hm : MemPlace.cell b off ∈ before := by simpa using hp'
    rw [frozen_old hR (hlt _ hm)]
    exact hz b off hm
  · intro ha
    simpa using hn ha
  · intro p hp' _
    simpa using hp'

/-- The table of the white bytes, in every world that the executor's relation reaches. -/
theorem space_tab {W : World} (h : laidMetH Tryz.prog Rows.cellsTuplesRow.laid W) : Lib.TabIs Tryz.prog W "strings.asciiSpace" .u8 Lib.asciiSpaceTab := by
  have hf : (Rows.cellsTuplesRow.laid.filter fun x => x.2.handleName?.isSome) = [] := by kernel_rfl
  unfold laidMetH at h
  rw [hf] at h
  have hm : ("strings.asciiSpace", Lib.tabData .u8 Lib.asciiSpaceTab) ∈ Rows.cellsTuplesRow.laid := by
    have e : Rows.cellsTuplesRow.laid[6]? = some ("strings.asciiSpace", Lib.tabData .u8 Lib.asciiSpaceTab) := by kernel_rfl
    exact List.mem_of_getElem? e
  exact tabIs_of_mem (g := 1) (t := 126) (e := 5) (n := 256) (by kernel_rfl) (by kernel_rfl) (by kernel_rfl) (by kernel_rfl) (by kernel_rfl) (by kernel_rfl) h hm

/-- What the executor says, for every world that holds the table. -/
theorem walk {W : World} (hL : laidMetH Tryz.prog Rows.cellsTuplesRow.laid W) {i : Nat} {f : AFunc} (hi : tab i = some (.code f)) {vs : List V} {xs : List Value} (hvs : PRels W (G0 W).I vs xs)
    (he : callL tab (.fn i [] []) vs [] = some (.bool true, [], 0)) :
    Calls Tryz.prog i ⟨xs⟩ W fun e W' => e = .returned (.bool true) ∧ ∃ G' H', RelH (C fun b => W.heap[b]?) id G' H' W' ∧ W'.os = W.os ∧ W'.output = W.output := by
  obtain ⟨n, hn⟩ := callL_iff.1 he
  have hT : TabOk (C fun b => W.heap[b]?) id tab := tab_ok fun G H w hR => tabIs_old hR (space_tab hL)
  have h := calls_of_exec (C := C fun b => W.heap[b]?) (fid := id) (Checked.mixed Tryz.checked) ctx_ok hT hi hn (start_rel W) (PRels.toV hvs)
  refine Calls.mono h fun e W' hp => ?_
  obtain ⟨x, rfl, G', h1, h2, h3⟩ := hp
  rw [h3.boolInv]
  have hE := h2 0 (Nat.le_refl _)
  exact ⟨rfl, G', _, h1, hE.os, hE.output⟩

theorem contract (H : Type) (enc : TypeId × Value → H) (W : World) (base : Nat) (args : Array Value) (ds gs : List (DataW H)) (before : List MemPlace)
    (hval : ∀ (j : Nat) t v, Tryz.f7.params[j]? = some t → args[j]? = some v → Value.okWide Tryz.prog W .any base t v)
    (hW : DataW.Whole enc Tryz.prog Tryz.f7.params.toList Rows.cellsTuplesSpec.vars false W args.toList ds gs before)
    (hsz : (DataW.weightsEach Tryz.prog (Tryz.f7.params.toList ++ (OpenSpec.ofChange Rows.cellsTuplesSpec).bare.plain.varTypes Tryz.prog) (ds ++ gs)).all (· ≤ reachBytes) = true)
    (hL : laidMetH Tryz.prog Rows.cellsTuplesRow.laid W) :
    Calls Tryz.prog 7 args W fun e W' => ∃ v, e = .returned v ∧ Rows.cellsTuplesSpec.post enc Tryz.prog Tryz.f7 false true false false W args v W' := by
  have hW' := hW
  obtain ⟨p, q, hA, hV, hbe, hfz, hnd⟩ := hW
  have hvt : (OpenSpec.ofChange Rows.cellsTuplesSpec).bare.plain.varTypes Tryz.prog = [] := by kernel_rfl
  rw [hvt, List.append_nil] at hsz
  obtain ⟨hgs, rfl⟩ := trodVars_none hV
  subst hgs
  rw [List.append_nil] at hsz
  rw [Tryz.params7] at hA hval hsz
  obtain ⟨v0, vs0, d0, ds0, p0, q0, hargs, rfl, rfl, h0, r0⟩ := trodAll_cons hA
  obtain ⟨v1, vs1, d1, ds1, p1, q1, rfl, rfl, rfl, h1, r1⟩ := trodAll_cons r0
  obtain ⟨rfl, rfl, rfl⟩ := trodAll_nil r1
  obtain rfl : args = #[v0, v1] := by cases args; simp_all
  have hb : Tryz.prog.bytesOf 3 = 8 := by kernel_rfl
  have hc : Tryz.prog.cellsOf 3 = 1 := by kernel_rfl
  have hl : ∀ (j : Nat) d, [d0, d1][j]? = some d → [22, 22][j]? = some 22 → ∀ elems spare, d = .slice elems spare → elems.length < 4611686018427387904 := fun j d hj ht elems spare e => by
    subst e
    have := sized_slice hsz (j := j) ht hj Tryz.underlying22
    rw [hb] at this
    exact bytes_pos (l := elems.length) (n := 0) (by omega)
  obtain ⟨sv, l0, a0, b0, c0, e0⟩ := open_vi Tryz.underlying22 Tryz.underlying3 hc (hval 0 22 v0 rfl rfl) h0 (hl 0 d0 rfl rfl)
  obtain ⟨cv, l1, a1, b1, c1, e1⟩ := open_vi Tryz.underlying22 Tryz.underlying3 hc (hval 1 22 v1 rfl rfl) h1 (hl 1 d1 rfl rfl)
  have hx := cellsTuples_s (sv := sv) (cv := cv) (sizes := l0) (cols := l1) ⟨b0, c0, e0⟩ ⟨b1, c1, e1⟩
  refine (walk hL (i := 7) (f := F7) rfl (vs := [sv, cv]) (xs := [v0, v1]) (.cons _ _ _ _ a0 (.cons _ _ _ _ a1 .nil)) hx).mono fun e W' hp => ?_
  obtain ⟨rfl, G', H', hR, ho, hpt⟩ := hp
  refine ⟨_, rfl, post_true hW' rfl (fun t ht => ?_) (by kernel_rfl) rfl (fun _ => rfl) rfl hR ho hpt⟩
  rw [Tryz.params7] at ht
  have : t = 22 := by simpa using ht
  subst this
  exact of_decide_eq_true (by kernel_rfl)
end Go.Proofs.YteiajndkjnlmiaaGreatDoor.tuples
/- A world for the witness: the variables hold what their initialisers lay. -/
namespace Go.Proofs.YteiajndkjnlmiaaGreatDoor
open Go Go.Abs Go.Abs.T09 Go.Proofs
set_option maxRecDepth 100000

def litsOf : DataW Unit → List Value
  | .agg xs => xs.map fun x => match x with
    | .lit (.int k n) => .int k n
    | _ => .tuple #[]
  | _ => []
def wordOf : DataW Unit → Value
  | .iface _ (.ptr (.agg [.lit (.string s)])) => .string ⟨⟨s⟩⟩
  | _ => .tuple #[]
def rowsOf : DataW Unit → List Value
  | .ptr (.agg (.slice xs _ :: _)) => xs.flatMap litsOf
  | _ => []

/-- The blocks that the variables point to. -/
def more : Array Obj := #[.cells #[wordOf Rows.laid_strconv_ErrRange] 171 (0, 0), .cells #[wordOf Rows.laid_strconv_ErrSyntax] 171 (0, 0),
  .cells #[.slice (some ⟨17, 0, none⟩) 7 7, .slice none 0 0, .int .i64 2] 160 (0, 0), .cells (rowsOf Rows.laid_unicode_White_Space).toArray 163 (0, 0)]

def setTo (cs : Array Value) : Obj → Obj
  | .cells _ t f => .cells cs t f
  | o => o

noncomputable def laidWorld (os : Os) : World :=
  { World.holding Tryz.prog os ⟨more, #[], []⟩ with heap := (((((((World.holding Tryz.prog os ⟨more, #[], []⟩).heap.modify 1 (setTo (litsOf Rows.laid_strings_asciiSpace).toArray)).modify 2 (setTo (litsOf Rows.laid_internal_strconv_uint64pow10).toArray)).modify 3 (setTo #[.pointer (some ⟨16, 0, none⟩)])).modify 4
      (setTo #[.iface 169 (.pointer (some ⟨15, 0, none⟩))])).modify 5 (setTo #[.iface 169 (.pointer (some ⟨14, 0, none⟩))])).modify 6 (setTo (litsOf Rows.laid_math_bits_deBruijn32tab).toArray)).modify 7 (setTo (litsOf Rows.laid_math_bits_deBruijn64tab).toArray) }

theorem own : ownKnob Tryz.prog.godebug = none := by kernel_rfl
end Go.Proofs.YteiajndkjnlmiaaGreatDoor
/- The words of a text, one by one; the words of a cell's text. Plain lists. -/
namespace Go.Abs.T09
open Go Go.Abs

/-- The words that stand in what is left of a text. -/
inductive Lex : List UInt8 → List (List UInt8) → Prop
  | done (r : List UInt8) (h : tokKind (r.drop (skipL false r)) = 0) : Lex r []
  | more (r : List UInt8) (ws : List (List UInt8)) (h : tokKind (r.drop (skipL false r)) ≠ 0) (hw : Lex ((r.drop (skipL false r)).drop (tokLen (r.drop (skipL false r)))) ws) :
      Lex r ((r.drop (skipL false r)).take (tokLen (r.drop (skipL false r))) :: ws)

theorem Lex.step {sep w rest : List UInt8} {ws : List (List UInt8)} (h1 : skipL false (sep ++ (w ++ rest)) = sep.length) (h2 : tokKind (w ++ rest) ≠ 0) (h3 : tokLen (w ++ rest) = w.length) (h : Lex rest ws) : Lex (sep ++ (w ++ rest)) (w :: ws) := by
  have e : (sep ++ (w ++ rest)).drop (skipL false (sep ++ (w ++ rest))) = w ++ rest := by rw [h1, List.drop_left]
  have m := Lex.more (sep ++ (w ++ rest)) ws (by rw [e]; exact h2) (by rw [e, h3, List.drop_left]; exact h)
  rw [e, h3, List.take_left] at m
  exact m
theorem Lex.nil : Lex [] [] := .done [] rfl

theorem Lex.inj {r : List UInt8} {a b : List (List UInt8)} (ha : Lex r a) (hb : Lex r b) : a = b := by
  induction ha generalizing b with
  | done r h =>
    cases hb with
    | done _ _ => rfl
    | more _ ws h' _ => exact absurd h h'
  | more r ws h hw ih =>
    cases hb with
    | done _ h' => exact absurd h' h
    | more _ ws' _ hw' => rw [ih hw']

/-- White space that may stand between words. -/
structure Sep (sep : List UInt8) : Prop where
  skip : ∀ c r, isW c = false → c.toNat ≠ 35 → skipL false (sep ++ c :: r) = sep.length
  head : ∀ c r, isPt c = false → ∃ c' r', sep ++ c :: r = c' :: r' ∧ isPt c' = false

theorem sep0 : Sep [] := ⟨fun c r h1 h2 => by simp [skipL, h1, h2], fun c r h => ⟨c, r, rfl, h⟩⟩
theorem sep1 : Sep [32] := ⟨fun c r h1 h2 => by simp [skipL, h1, h2, show isW 32 = true from rfl], fun c r h => ⟨32, c :: r, rfl, rfl⟩⟩
theorem sep2 : Sep [10] := ⟨fun c r h1 h2 => by simp [skipL, h1, h2, show isW 10 = true from rfl], fun c r h => ⟨10, c :: r, rfl, rfl⟩⟩
theorem sep3 : Sep [35, 32, 120, 10] := ⟨fun c r h1 h2 => by simp [skipL, h1, h2, show isW 35 = false from rfl], fun c r h => ⟨35, [32, 120, 10] ++ c :: r, rfl, rfl⟩⟩

def isSy (c : UInt8) : Bool := c == 40 || c == 41 || c == 44
theorem isSy_cases {c : UInt8} (h : isSy c = true) : c = 40 ∨ c = 41 ∨ c = 44 := by
  simp [isSy] at h
  rcases h with (h | h) | h
  · exact .inl h
  · exact .inr (.inl h)
  · exact .inr (.inr h)
theorem sym_one {c : UInt8} (h : isSy c = true) (r : List UInt8) : sym (c :: r) = 1 := by
  rcases isSy_cases h with rfl | rfl | rfl <;> simp [sym, two, one, pre]
theorem Lex.sy {sep rest : List UInt8} {ws : List (List UInt8)} {c : UInt8} (hs : Sep sep) (hc : isSy c = true) (h : Lex rest ws) : Lex (sep ++ c :: rest) ([c] :: ws) := by
  have hW : isW c = false := by rcases isSy_cases hc with rfl | rfl | rfl <;> rfl
  have h35 : c.toNat ≠ 35 := by rcases isSy_cases hc with rfl | rfl | rfl <;> decide
  have hL : isL c = false := by rcases isSy_cases hc with rfl | rfl | rfl <;> rfl
  have hD : isD c = false := by rcases isSy_cases hc with rfl | rfl | rfl <;> rfl
  have hs1 := sym_one hc rest
  exact Lex.step (w := [c]) (hs.skip c rest hW h35) (by simp [tokKind, hL, hD, hs1]) (by simp [tokLen, hL, hD, hs1]) h

/-- What may follow a name or a number. -/
def Stop (rest : List UInt8) : Prop := ∀ c r, rest = c :: r → isPt c = false
theorem Sep.stop {sep : List UInt8} (hs : Sep sep) {c : UInt8} (hc : isSy c = true) (r : List UInt8) : Stop (sep ++ c :: r) := by
  obtain ⟨c', r', e, h⟩ := hs.head c r (by rcases isSy_cases hc with rfl | rfl | rfl <;> rfl)
  intro d t e'
  rw [e] at e'
  cases e'; exact h

def dgt (d : Int) : UInt8 := UInt8.ofNat (48 + d.toNat)
theorem dgt_cases {d : Int} (h0 : 0 ≤ d) (h6 : d < 6) : d = 0 ∨ d = 1 ∨ d = 2 ∨ d = 3 ∨ d = 4 ∨ d = 5 := by omega
theorem dgt_inj {a b : Int} (a0 : 0 ≤ a) (a6 : a < 6) (b0 : 0 ≤ b) (b6 : b < 6) (h : dgt a = dgt b) : a = b := by
  rcases dgt_cases a0 a6 with rfl | rfl | rfl | rfl | rfl | rfl <;> rcases dgt_cases b0 b6 with rfl | rfl | rfl | rfl | rfl | rfl <;> first | rfl | (exact absurd h (by decide))
theorem Lex.dg {sep rest : List UInt8} {ws : List (List UInt8)} {d : Int} (hs : Sep sep) (h0 : 0 ≤ d) (h6 : d < 6) (hst : Stop rest) (h : Lex rest ws) : Lex (sep ++ dgt d :: rest) ([dgt d] :: ws) := by
  have hW : isW (dgt d) = false := by rcases dgt_cases h0 h6 with rfl | rfl | rfl | rfl | rfl | rfl <;> rfl
  have h35 : (dgt d).toNat ≠ 35 := by rcases dgt_cases h0 h6 with rfl | rfl | rfl | rfl | rfl | rfl <;> decide
  have hL : isL (dgt d) = false := by rcases dgt_cases h0 h6 with rfl | rfl | rfl | rfl | rfl | rfl <;> rfl
  have hD : isD (dgt d) = true := by rcases dgt_cases h0 h6 with rfl | rfl | rfl | rfl | rfl | rfl <;> rfl
  have hr : runLen isD (dgt d :: rest) = 1 := by
    rw [runLen_cons, hD]
    cases rest with
    | nil => rfl
    | cons c r =>
      have hp := hst c r rfl
      have hd : isD c = false := by
        simp only [isPt, Bool.or_eq_false_iff] at hp
        exact hp.1.2
      simp [runLen_cons, hd]
  exact Lex.step (w := [dgt d]) (hs.skip _ rest hW h35) (by simp [tokKind, hL, hD]) (by simp [tokLen, hL, hD, hr]) h

theorem runLen_all {p : UInt8 → Bool} {w rest : List UInt8} (hw : w.all p = true) (hst : ∀ c r, rest = c :: r → p c = false) : runLen p (w ++ rest) = w.length := by
  induction w with
  | nil =>
    cases rest with
    | nil => rfl
    | cons c r => rw [List.nil_append, runLen_cons, hst c r rfl]; rfl
  | cons c w ih =>
    simp only [List.all_cons, Bool.and_eq_true] at hw
    rw [List.cons_append, runLen_cons, hw.1, ih hw.2]; rfl
theorem all_of_runLen {p : UInt8 → Bool} {w : List UInt8} (h : runLen p w = w.length) : w.all p = true := by
  induction w with
  | nil => rfl
  | cons c w ih =>
    rw [runLen_cons] at h
    cases hc : p c with
    | false => rw [hc] at h; simp at h
    | true =>
      rw [hc] at h
      simp only [if_true, List.length_cons] at h
      simp [hc, ih (by omega)]

/-- What a name is made of. -/
theorem name_parts {w : List UInt8} (h : nameOk w = true) : ∃ c r, w = c :: r ∧ isL c = true ∧ w.all isPt = true ∧ kw.contains w = false ∧ w.length ≤ 16 := by
  simp only [nameOk, Bool.and_eq_true, decide_eq_true_eq] at h
  obtain ⟨hl, hk⟩ := h
  unfold kindOf at hk
  split at hk
  · cases hk
  · rename_i h0
    split at hk
    · rename_i h1
      obtain ⟨ha, he⟩ := h1
      cases w with
      | nil => simp at h0
      | cons c r =>
        have hte : tokLen (c :: r) = (c :: r).length := by
          unfold tokEnd at he
          rw [ha] at he
          simpa using he
        have hL : isL c = true := by
          cases hc : isL c with
          | true => rfl
          | false =>
            exfalso
            simp only [tokKind, hc] at hk
            split at hk
            · rename_i h; cases h
            · split at hk
              · cases hk
              · split at hk <;> cases hk
        refine ⟨c, r, rfl, hL, ?_, ?_, hl⟩
        · simp only [tokLen, hL, if_true] at hte
          exact all_of_runLen hte
        · simp only [tokLen, hL, if_true] at hte
          simp only [tokKind, hL, if_true, hte, List.take_length] at hk
          cases hc : kw.contains (c :: r) with
          | false => rfl
          | true => rw [hc] at hk; simp at hk
    · cases hk

theorem Lex.nm {w rest : List UInt8} {ws : List (List UInt8)} (hw : nameOk w = true) (hst : Stop rest) (h : Lex rest ws) : Lex (w ++ rest) (w :: ws) := by
  obtain ⟨c, r, rfl, hL, hall, hkw, hl⟩ := name_parts hw
  have hr := runLen_all hall hst
  have hW : isW c = false := by
    simp only [isL, Bool.and_eq_true, decide_eq_true_eq] at hL
    have h1 : (c.toNat == 32) = false := by simp; omega
    have h2 : (c.toNat == 9) = false := by simp; omega
    have h3 : (c.toNat == 10) = false := by simp; omega
    have h4 : (c.toNat == 13) = false := by simp; omega
    simp only [isW, h1, h2, h3, h4, Bool.or_self]
  have h35 : c.toNat ≠ 35 := by
    simp only [isL, Bool.and_eq_true, decide_eq_true_eq] at hL
    omega
  have e1 : tokLen (c :: r ++ rest) = (c :: r).length := by
    rw [List.cons_append] at hr ⊢
    simp only [tokLen, hL, if_true, hr]
  have e2 : tokKind (c :: r ++ rest) ≠ 0 := by
    rw [List.cons_append]
    simp only [tokKind, hL, if_true]
    split <;> decide
  exact Lex.step (sep := []) (w := c :: r) (by rw [List.nil_append, List.cons_append]; simp [skipL, hW, h35]) e2 e1 h

/-! ### the words of a cell's text -/
def tl (ds : List Int) : List (List UInt8) := ds.flatMap fun d => [[44], [dgt d]]
def dl : List Int → List (List UInt8)
  | [] => []
  | d :: r => [dgt d] :: tl r
def cws (name : List UInt8) (ds : List Int) : List (List UInt8) := name :: [40] :: (dl ds ++ [[41]])
/-- The text of a cell. -/
def fmt (name : List UInt8) (ds : List Int) : List UInt8 := (name ++ [40] ++ Lib.join (ds.map fun d => [dgt d]) [44, 32]) ++ [41]

def In6 (ds : List Int) : Prop := ∀ d ∈ ds, 0 ≤ d ∧ d < 6

theorem lex_tail {ds : List Int} (h : In6 ds) : Lex (Lib.joinTail [44, 32] (ds.map fun d => [dgt d]) ++ [41]) (tl ds ++ [[41]]) ∧ Stop (Lib.joinTail [44, 32] (ds.map fun d => [dgt d]) ++ [41]) := by
  induction ds with
  | nil => exact ⟨Lex.sy sep0 rfl Lex.nil, sep0.stop (c := 41) rfl []⟩
  | cons d r ih =>
    obtain ⟨i1, i2⟩ := ih fun x hx => h x (by simp [hx])
    have hd := h d (by simp)
    have e : Lib.joinTail [44, 32] ((d :: r).map fun d => [dgt d]) ++ [41] = [] ++ 44 :: ([32] ++ dgt d :: (Lib.joinTail [44, 32] (r.map fun d => [dgt d]) ++ [41])) := by simp [Lib.joinTail]
    rw [e]
    exact ⟨Lex.sy sep0 rfl (Lex.dg sep1 hd.1 hd.2 i2 i1), sep0.stop rfl _⟩

/-- The text that Format writes has these words. -/
theorem lex_fmt {name : List UInt8} {ds : List Int} (hn : nameOk name = true) (h : In6 ds) : Lex (fmt name ds) (cws name ds) := by
  have e : fmt name ds = name ++ ([] ++ 40 :: (Lib.join (ds.map fun d => [dgt d]) [44, 32] ++ [41])) := by simp [fmt]
  rw [e]
  refine Lex.nm hn (sep0.stop rfl _) (Lex.sy sep0 rfl ?_)
  cases ds with
  | nil => exact Lex.sy sep0 rfl Lex.nil
  | cons d r =>
    have hd := h d (by simp)
    obtain ⟨i1, i2⟩ := lex_tail (ds := r) fun x hx => h x (by simp [hx])
    rw [List.map_cons, Lib.join_cons]
    have e2 : [dgt d] ++ Lib.joinTail [44, 32] (r.map fun d => [dgt d]) ++ [41] = [] ++ dgt d :: (Lib.joinTail [44, 32] (r.map fun d => [dgt d]) ++ [41]) := by simp
    rw [e2]
    exact Lex.dg sep0 hd.1 hd.2 i2 i1

theorem lex_tail2 {sep : List UInt8} (hs : Sep sep) {ds : List Int} (h : In6 ds) : Lex (Lib.joinTail sep (tl ds ++ [[41]])) (tl ds ++ [[41]]) ∧ Stop (Lib.joinTail sep (tl ds ++ [[41]])) := by
  induction ds with
  | nil =>
    have e : Lib.joinTail sep (tl [] ++ [[41]]) = sep ++ 41 :: [] := by simp [Lib.joinTail, tl]
    rw [e]
    exact ⟨Lex.sy hs rfl Lex.nil, hs.stop rfl _⟩
  | cons d r ih =>
    obtain ⟨i1, i2⟩ := ih fun x hx => h x (by simp [hx])
    have hd := h d (by simp)
    have e : Lib.joinTail sep (tl (d :: r) ++ [[41]]) = sep ++ 44 :: (sep ++ dgt d :: Lib.joinTail sep (tl r ++ [[41]])) := by simp [Lib.joinTail, tl]
    have e2 : tl (d :: r) ++ [[41]] = [44] :: [dgt d] :: (tl r ++ [[41]]) := by simp [tl]
    rw [e, e2]
    exact ⟨Lex.sy hs rfl (Lex.dg hs hd.1 hd.2 i2 i1), hs.stop rfl _⟩

/-- So has the text of the words with white space between them. -/
theorem lex_join {name sep : List UInt8} {ds : List Int} (hs : Sep sep) (hn : nameOk name = true) (h : In6 ds) : Lex (Lib.join (cws name ds) sep) (cws name ds) := by
  unfold cws
  rw [Lib.join_cons]
  have e : Lib.joinTail sep ([40] :: (dl ds ++ [[41]])) = sep ++ 40 :: Lib.joinTail sep (dl ds ++ [[41]]) := by simp [Lib.joinTail]
  rw [e]
  refine Lex.nm hn (hs.stop rfl _) (Lex.sy hs rfl ?_)
  cases ds with
  | nil =>
    have e : Lib.joinTail sep (dl [] ++ [[41]]) = sep ++ 41 :: [] := by simp [Lib.joinTail, dl]
    rw [e]
    exact Lex.sy hs rfl Lex.nil
  | cons d r =>
    have hd := h d (by simp)
    obtain ⟨i1, i2⟩ := lex_tail2 hs (ds := r) fun x hx => h x (by simp [hx])
    have e : Lib.joinTail sep (dl (d :: r) ++ [[41]]) = sep ++ dgt d :: Lib.joinTail sep (tl r ++ [[41]]) := by simp [Lib.joinTail, dl]
    rw [e]
    exact Lex.dg hs hd.1 hd.2 i2 i1

theorem tl_length (ds : List Int) : (tl ds).length = 2 * ds.length := by
  induction ds with
  | nil => rfl
  | cons d r ih => simp [tl] at ih ⊢; omega
theorem tl_get (ds : List Int) : ∀ k, (tl ds)[2 * k]? = (ds[k]?).map (fun _ => [44]) ∧ (tl ds)[2 * k + 1]? = (ds[k]?).map fun d => [dgt d] := by
  induction ds with
  | nil => intro k; simp [tl]
  | cons d r ih =>
    intro k
    have e : tl (d :: r) = [44] :: [dgt d] :: tl r := rfl
    rw [e]
    cases k with
    | zero => exact ⟨rfl, rfl⟩
    | succ k =>
      have := ih k
      have e1 : 2 * (k + 1) = 2 * k + 1 + 1 := by omega
      rw [e1]
      simp only [List.getElem?_cons_succ]
      exact this
theorem dl_length (ds : List Int) : (dl ds).length = 2 * ds.length - 1 := by
  cases ds with
  | nil => rfl
  | cons d r => simp only [dl, List.length_cons, tl_length]; omega
/-- Numbers at the even places. -/
theorem dl_even (ds : List Int) (k : Nat) (h : k < ds.length) : ∃ d, ds[k]? = some d ∧ (dl ds)[2 * k]? = some [dgt d] := by
  cases ds with
  | nil => simp at h
  | cons d r =>
    cases k with
    | zero => exact ⟨d, rfl, rfl⟩
    | succ k =>
      obtain ⟨x, hx⟩ : ∃ x, r[k]? = some x := ⟨_, List.getElem?_eq_getElem (by simpa using h)⟩
      refine ⟨x, by simpa using hx, ?_⟩
      have := (tl_get r k).2
      rw [hx] at this
      have e1 : 2 * (k + 1) = 2 * k + 1 + 1 := by omega
      rw [e1]
      simp only [dl, List.getElem?_cons_succ]
      exact this
theorem dl_odd (ds : List Int) (k : Nat) (h : 2 * k + 1 < (dl ds).length) : (dl ds)[2 * k + 1]? = some [44] := by
  cases ds with
  | nil => simp [dl] at h
  | cons d r =>
    rw [dl_length] at h
    obtain ⟨x, hx⟩ : ∃ x, r[k]? = some x := ⟨_, List.getElem?_eq_getElem (by simp at h; omega)⟩
    have := (tl_get r k).1
    rw [hx] at this
    simp only [dl, List.getElem?_cons_succ]
    exact this
theorem tl_inj {a b : List Int} (ha : In6 a) (hb : In6 b) (h : tl a ++ [[41]] = tl b ++ [[41]]) : a = b := by
  have h := (List.append_inj_left' h rfl)
  induction a generalizing b with
  | nil =>
    cases b with
    | nil => rfl
    | cons y s => simp [tl] at h
  | cons x r ih =>
    cases b with
    | nil => simp [tl] at h
    | cons y s =>
      have e1 : tl (x :: r) = [44] :: [dgt x] :: tl r := rfl
      have e2 : tl (y :: s) = [44] :: [dgt y] :: tl s := rfl
      rw [e1, e2] at h
      simp only [List.cons.injEq, and_true, true_and] at h
      have hx := ha x (by simp)
      have hy := hb y (by simp)
      rw [dgt_inj hx.1 hx.2 hy.1 hy.2 h.1, ih (fun z hz => ha z (by simp [hz])) (fun z hz => hb z (by simp [hz])) (by rw [h.2]) h.2]
theorem cws_inj {n m : List UInt8} {a b : List Int} (ha : In6 a) (hb : In6 b) (h : cws n a = cws m b) : n = m ∧ a = b := by
  unfold cws at h
  simp only [List.cons.injEq, true_and] at h
  refine ⟨h.1, ?_⟩
  have h2 := List.append_inj_left' h.2 rfl
  cases a with
  | nil =>
    cases b with
    | nil => rfl
    | cons y s => simp [dl] at h2
  | cons x r =>
    cases b with
    | nil => simp [dl] at h2
    | cons y s =>
      simp only [dl, List.cons.injEq, and_true] at h2
      have hx := ha x (by simp)
      have hy := hb y (by simp)
      have hrs : r = s := tl_inj (fun z hz => ha z (by simp [hz])) (fun z hz => hb z (by simp [hz])) (by rw [h2.2])
      rw [dgt_inj hx.1 hx.2 hy.1 hy.2 h2.1, hrs]
theorem fmt_inj {n m : List UInt8} {a b : List Int} (hn : nameOk n = true) (hm : nameOk m = true) (ha : In6 a) (hb : In6 b) (h : fmt n a = fmt m b) : n = m ∧ a = b := by
  have l1 := lex_fmt hn ha
  have l2 := lex_fmt hm hb
  rw [h] at l1
  exact cws_inj ha hb (l1.inj l2)
end Go.Abs.T09
/- lexer.Words. -/
namespace Go.Abs.T09
open Go Go.Abs

def wEnv (s : List UInt8) (n : Nat) : Env := [(0, .str s), (1, .ptr n 0), (2, .nil0), (7, .bool false), (3, .ptr (n + 1) 0), (9, .fn 68 [] [.ptr (n + 2) 0, .ptr (n + 4) 0])]
def wLoop (s : List UInt8) (n : Nat) : AObj := .loop .ready .normal (wEnv s n) [10] F20A0 F20B0

def OutW (n : Nat) (H : Heap) (v : V) (out : List (List UInt8)) : Prop := (out = [] ∧ v = .nil0) ∨ (out ≠ [] ∧ ∃ q, n + 6 ≤ q ∧ q < H.length ∧ v = .sref q 1 0 out.length out.length ∧ H[q]? = some (.row 1 (out.map .str) false))

structure WH (n : Nat) (s : List UInt8) (H : Heap) (out : List (List UInt8)) : Prop where
  len : n + 6 ≤ H.length
  g0 : H[n]? = some (.cells [.str s])
  gt : H[n + 2]? = some (.cells [.str s])
  gm : H[n + 3]? = some (.map kwEnts)
  gp : H[n + 4]? = some (.cells [.map (n + 3)])
  gl : H[n + 5]? = some (wLoop s n)
  out : ∃ v, H[n + 1]? = some (.cells [v]) ∧ OutW n H v out

/-- Objects that are no rows stay. -/
def keepO (m : Nat) (H H' : Heap) : Prop := ∀ j o, j ≠ m → H[j]? = some o → (∀ es ds fz, o ≠ .row es ds fz) → H'[j]? = some o

set_option maxHeartbeats 2000000 in
theorem word_body {n p lo K F A E : Nat} {s : List UInt8} {Hb : Heap} {v : V} {out : List (List UInt8)} (b0 : Hb[n]? = some (.cells [.str s])) (b1 : Hb[n + 1]? = some (.cells [v])) (bp : Hb[p]? = some (.cells [.int .i64 K, .int .i64 F, .int .i64 A, .int .i64 E])) (hp : n + 5 < p)
    (ho : OutW n Hb v out) (hAE : A ≤ E) (hE : E ≤ s.length) (hcap : out.length ≤ 5000) (hK : K ≠ 0)
    {st : St} (h1 : st.H = Hb) (h2 : st.low = lo) (hlo : lo ≤ Hb.length) (hn : n ≤ lo) (l1 : lookupE st.vE 1 = .ptr n 0) (l3 : lookupE st.vE 3 = .ptr (n + 1) 0) (l4 : lookupE st.vE 4 = .ptr p 0) :
    ∃ st' v', execL tab F20B0 st = some (.normal, st') ∧ n ≤ st'.low ∧ st'.low ≤ lo ∧ Hb.length ≤ st'.H.length ∧ st'.H[n + 1]? = some (.cells [v']) ∧ OutW n st'.H v' (out ++ [(s.take E).drop A]) ∧ keepO (n + 1) Hb st'.H := by
  have hlt {k : Nat} {o : AObj} (h : Hb[k]? = some o) : k < Hb.length := by
    rcases Nat.lt_or_ge k Hb.length with h1 | h1
    · exact h1
    · rw [List.getElem?_eq_none h1] at h; cases h
  have b0E : ∀ h : n < Hb.length, Hb[n]'h = .cells [.str s] := fun h => by rw [List.getElem?_eq_getElem h] at b0; exact Option.some.inj b0
  have b1E : ∀ h : n + 1 < Hb.length, Hb[n + 1]'h = .cells [v] := fun h => by rw [List.getElem?_eq_getElem h] at b1; exact Option.some.inj b1
  have bpE : ∀ h : p < Hb.length, Hb[p]'h = .cells [.int .i64 K, .int .i64 F, .int .i64 A, .int .i64 E] := fun h => by rw [List.getElem?_eq_getElem h] at bp; exact Option.some.inj bp
  have hKi : ((K : Int) != 0) = true := by simp; omega
  have hml : min lo Hb.length = lo := Nat.min_eq_left hlo
  have hn1 := hlt b1
  rcases ho with ⟨rfl, rfl⟩ | ⟨hne, q, q1, q2, rfl, q3⟩
  · have : ∃ st', execL tab F20B0 st = some (.normal, st') ∧ n ≤ st'.low ∧ st'.low ≤ lo ∧ st'.H = (Hb ++ [AObj.row 1 [.str ((s.take E).drop A)] false]).set (n + 1) (.cells [.sref Hb.length 1 0 1 1]) := by
      have c1 := get_app b1 [AObj.row 1 [.str ((s.take E).drop A)] false]
      refine ⟨_, by simp [F20B0, callBody, zipE, execL_seq, execL_region, execL_cond, execL_skip, execL_ret, execL_exit, execL_block, execOps, wantedA, S_mv, S_pick, S_bin, S_un, S_call0, S_call1, S_extract, S_nilEq, S_load, S_alloc, S_box, Opd.ev, lookupE, lookE_setE, St.put, binA, unA, boolOf, freezeVs, freezeV, freeze1, isP, isPs, resultsA, resultA, finish, old, olds, flat, movedH_same, Nat.min_self, loadA, readCells, cellsV, h1, h2, l1, l3, l4, b0, b0E, b1, b1E, bp, bpE, c1, S_fieldAddr, hKi, S_sliceS, bnd, hAE, hE, S_lit, S_append, S_store, storeA, setCells, step, fillL, zeroElem, elems, cellsOk, cellOk, inOrder, movedH, touches, hml]; exact ⟨⟨by decide, .inr (by decide)⟩, rfl⟩, ?_⟩
      refine ⟨by simp; omega, by simp; omega, by simp⟩
    obtain ⟨st', a1, a2, a3, a4⟩ := this
    refine ⟨st', _, a1, a2, a3, by rw [a4]; simp, by rw [a4, List.getElem?_set_self (by simp; omega)]; rfl, .inr ⟨by simp, Hb.length, by have := hlt bp; omega, by rw [a4]; simp, rfl, ?_⟩, fun j o hj hjo _ => ?_⟩
    · rw [a4, List.getElem?_set_ne (by omega)]; simp
    · rw [a4, List.getElem?_set_ne (by omega)]; exact get_app hjo _
  · have q3E : ∀ h : q < Hb.length, Hb[q]'h = .row 1 (out.map .str) false := fun h => by rw [List.getElem?_eq_getElem h] at q3; exact Option.some.inj q3
    have hcp : (out.length + 1) * 17 ≤ 1099511627776 := by omega
    have : ∃ st', execL tab F20B0 st = some (.normal, st') ∧ n ≤ st'.low ∧ st'.low ≤ lo ∧ st'.H = (Hb.set q (AObj.row 1 (out.map .str ++ [.str ((s.take E).drop A)]) false)).set (n + 1) (.cells [.sref q 1 0 (out.length + 1) (out.length + 1)]) := by
      have c1 : (Hb.set q (AObj.row 1 (out.map .str ++ [.str ((s.take E).drop A)]) false))[n + 1]? = some (.cells [.sref q 1 0 out.length out.length]) := by rw [List.getElem?_set_ne (by omega)]; exact b1
      refine ⟨_, by simp [F20B0, callBody, zipE, execL_seq, execL_region, execL_cond, execL_skip, execL_ret, execL_exit, execL_block, execOps, wantedA, S_mv, S_pick, S_bin, S_un, S_call0, S_call1, S_extract, S_nilEq, S_load, S_alloc, S_box, Opd.ev, lookupE, lookE_setE, St.put, binA, unA, boolOf, freezeVs, freezeV, freeze1, isP, isPs, resultsA, resultA, finish, old, olds, flat, movedH_same, Nat.min_self, loadA, readCells, cellsV, h1, h2, l1, l3, l4, b0, b0E, b1, b1E, bp, bpE, q3, q3E, c1, hcp, S_fieldAddr, hKi, S_sliceS, bnd, hAE, hE, S_lit, S_append, S_store, storeA, setCells, step, fillL, zeroElem, elems, cellsOk, cellOk, inOrder, movedH, touches, hml]; exact ⟨.inr ⟨.inr (by decide), .inr (by decide)⟩, rfl⟩, ?_⟩
      refine ⟨by simp; omega, by simp; omega, by simp⟩
    obtain ⟨st', a1, a2, a3, a4⟩ := this
    refine ⟨st', _, a1, a2, a3, by rw [a4]; simp, by rw [a4, List.getElem?_set_self (by simp; omega)], .inr ⟨by simp, q, q1, by rw [a4]; simp; omega, by simp, ?_⟩, fun j o hj hjo hno => ?_⟩
    · rw [a4, List.getElem?_set_ne (by omega), List.getElem?_set_self q2]; simp
    · rw [a4, List.getElem?_set_ne (by omega), List.getElem?_set_ne ?_]; exact hjo
      rintro rfl
      rw [q3] at hjo
      cases hjo
      exact hno _ _ _ rfl
end Go.Abs.T09
