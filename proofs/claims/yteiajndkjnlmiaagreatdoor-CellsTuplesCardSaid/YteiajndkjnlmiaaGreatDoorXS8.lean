/- The law CellsTuples, reckoned. -/
import Derived.Test.YteiajndkjnlmiaaGreatDoorXS7
set_option linter.unusedVariables false
set_option linter.unusedSimpArgs false
namespace Go.Abs.T09
open Go Go.Abs

theorem slE_nil0 (es : Nat) : slE es .nil0 = true := rfl
theorem el_nil0 : el .nil0 = [] := rfl

def okSize (n : Int) : Bool := decide (1 ≤ n) && decide (n ≤ 6)

/-- The slots that outlive the loops. -/
def Keeps (st st' : St) (ss : List Nat) : Prop := ∀ s ∈ ss, lookupE st'.vE s = lookupE st.vE s

set_option maxHeartbeats 1000000 in
theorem loop1_s {sv cv : V} {sizes cols : List Int} (hs : VI sv sizes) (hc : VI cv cols) {st : St} (e0 : lookupE st.vE 0 = sv) (e1 : lookupE st.vE 1 = cv) (e25 : lookupE st.vE 25 = sv) (e26 : lookupE st.vE 26 = .int .i64 sizes.length)
    (e27 : lookupE st.vE 27 = .int .i64 0) (e5 : lookupE st.vE 5 = .int .i64 1) (eH : st.H = []) (eL : st.low = 0) :
    ∃ x st', execL tab (.loop (rangeBody 28 26 27 42 1 0 F7L0)) st = some (x, st') ∧ st'.H = [] ∧ st'.low = 0 ∧
      ((x = .exit 0 ∧ sizes.all okSize = true ∧ lookupE st'.vE 0 = sv ∧ lookupE st'.vE 1 = cv ∧ lookupE st'.vE 5 = .int .i64 1) ∨ (x = .ret ∧ lookupE st'.vE 4 = .bool true)) := by
  have key := range_loop (tab := tab) (b := 28) (n := 26) (i := 27) (t := 42) (blk := 1) (ex := 0) (body := F7L0)
    (I := fun k st => st.H = [] ∧ st.low = 0 ∧ lookupE st.vE 0 = sv ∧ lookupE st.vE 1 = cv ∧ lookupE st.vE 5 = .int .i64 1 ∧ lookupE st.vE 25 = sv ∧ lookupE st.vE 27 = .int .i64 k ∧ lookupE st.vE 26 = .int .i64 sizes.length ∧ (sizes.take k).all okSize = true)
    (Q := fun x st => st.H = [] ∧ st.low = 0 ∧ ((x = .exit 0 ∧ sizes.all okSize = true ∧ lookupE st.vE 0 = sv ∧ lookupE st.vE 1 = cv ∧ lookupE st.vE 5 = .int .i64 1) ∨ (x = .ret ∧ lookupE st.vE 4 = .bool true)))
    (N := sizes.length) hs.lt (by decide) (by decide)
    (fun k st h => ⟨h.2.2.2.2.2.2.1, h.2.2.2.2.2.2.2.1, by rw [h.1, h.2.1]; exact Nat.le_refl _⟩)
    (by
      rintro k st hk ⟨q1, q2, q3, q4, q5, q6, q7, q8, q9⟩
      obtain ⟨n, hn⟩ : ∃ n, sizes[k]? = some n := ⟨_, List.getElem?_eq_getElem hk⟩
      have hg := hs.get hn
      have hmem := List.mem_of_getElem? hn
      by_cases hok : okSize n = true
      · have h1 : ¬ n < 1 := by simp [okSize] at hok; omega
        have h2 : ¬ n > 6 := by simp [okSize] at hok; omega
        have h2' : ¬ 6 < n := h2
        refine ⟨.normal, _, by simp [F7L0, callBody, zipE, execL_seq, execL_region, execL_cond, execL_skip, execL_ret, execL_exit, execL_block, execOps, wantedA, S_mv, S_pick, S_bin, S_un, S_call0, S_call1, S_extract, S_nilEq, S_load, S_alloc, S_box, Opd.ev, lookupE, lookE_setE, St.put, binA, unA, boolOf, freezeVs, freezeV, freeze1, isP, isPs, resultsA, resultA, finish, old, olds, flat, movedH_same, Nat.min_self, loadA, readCells, cellsV, q1, q2, q3, q4, q6, q7, q8, S_index, hs.sl, hg, h1, h2, h2']; rfl, ?_⟩
        simp only [true_or, if_true, lookE_setE, q1, q2]
        refine ⟨by simp [q7], by simp, trivial, by simp, by simp [q3], by simp [q4], by simp [q5], by simp [q6], by simp, by simp [q8], ?_⟩
        rw [List.take_add_one, hn]
        simp [q9, hok]
      · have hall : (sizes.all fun n => decide (1 ≤ n) && decide (n ≤ 6)) = false := by
          rw [List.all_eq_false]; exact ⟨n, hmem, by simpa [okSize] using hok⟩
        have ht := tuples_bad hs hc (.inr hall)
        unfold Ans at ht
        simp only [List.length_nil] at ht
        by_cases h1 : n < 1
        · refine ⟨.ret, _, by simp [F7L0, callBody, zipE, execL_seq, execL_region, execL_cond, execL_skip, execL_ret, execL_exit, execL_block, execOps, wantedA, S_mv, S_pick, S_bin, S_un, S_call0, S_call1, S_extract, S_nilEq, S_load, S_alloc, S_box, Opd.ev, lookupE, lookE_setE, St.put, binA, unA, boolOf, freezeVs, freezeV, freeze1, isP, isPs, resultsA, resultA, finish, old, olds, flat, movedH_same, Nat.min_self, loadA, readCells, cellsV, q1, q2, q3, q4, q6, q7, q8, S_index, S_len 1, slE_nil0, el_nil0, hs.sl, hs.isP, hc.isP, hg, h1, ht]; rfl, ?_⟩
          simp [q1, q2, lookE_setE]
        · have h2 : n > 6 := by simp [okSize] at hok; omega
          have h2' : 6 < n := h2
          refine ⟨.ret, _, by simp [F7L0, callBody, zipE, execL_seq, execL_region, execL_cond, execL_skip, execL_ret, execL_exit, execL_block, execOps, wantedA, S_mv, S_pick, S_bin, S_un, S_call0, S_call1, S_extract, S_nilEq, S_load, S_alloc, S_box, Opd.ev, lookupE, lookE_setE, St.put, binA, unA, boolOf, freezeVs, freezeV, freeze1, isP, isPs, resultsA, resultA, finish, old, olds, flat, movedH_same, Nat.min_self, loadA, readCells, cellsV, q1, q2, q3, q4, q6, q7, q8, S_index, S_len 1, slE_nil0, el_nil0, hs.sl, hs.isP, hc.isP, hg, h1, h2, h2', ht]; rfl, ?_⟩
          simp [q1, q2, lookE_setE])
    (by
      rintro st ⟨q1, q2, q3, q4, q5, q6, q7, q8, q9⟩
      rw [List.take_length] at q9
      exact ⟨q1, q2, .inl ⟨rfl, q9, by simp [lookE_setE, q3], by simp [lookE_setE, q4], by simp [lookE_setE, q5]⟩⟩)
  exact key sizes.length 0 st (by omega) ⟨eH, eL, e0, e1, e5, e25, e27, e26, by simp⟩

theorem pow6 {k : Nat} (h : k ≤ 3) : (6 : Int) ^ k ≤ 216 := by
  have : k = 0 ∨ k = 1 ∨ k = 2 ∨ k = 3 := by omega
  rcases this with rfl | rfl | rfl | rfl <;> decide

theorem mul_bound {p d : Int} {k : Nat} (h1 : 1 ≤ p) (h2 : p ≤ 6 ^ k) (h3 : 1 ≤ d) (h4 : d ≤ 6) : 1 ≤ p * d ∧ p * d ≤ 6 ^ (k + 1) := by
  constructor
  · have := Int.mul_le_mul h1 h3 (by omega) (by omega); simpa using this
  · have := Int.mul_le_mul h2 h4 (by omega) (Int.le_trans (by omega) h2)
    rw [Int.pow_succ]; exact this

set_option maxHeartbeats 1000000 in
theorem loop2_s {sv cv : V} {sizes cols : List Int} (hs : VI sv sizes) (hc : VI cv cols) (h3 : cols.length ≤ 3) (hok : sizes.all okSize = true) {st : St} (e0 : lookupE st.vE 0 = sv) (e1 : lookupE st.vE 1 = cv) (e43 : lookupE st.vE 43 = cv)
    (e44 : lookupE st.vE 44 = .int .i64 cols.length) (e45 : lookupE st.vE 45 = .int .i64 0) (e5 : lookupE st.vE 5 = .int .i64 1) (eH : st.H = []) (eL : st.low = 0) :
    ∃ x st', execL tab (.loop (rangeBody 46 44 45 68 3 2 F7L1)) st = some (x, st') ∧ st'.H = [] ∧ st'.low = 0 ∧
      ((x = .exit 2 ∧ cols.any (badCol sizes) = false ∧ lookupE st'.vE 0 = sv ∧ lookupE st'.vE 1 = cv ∧ lookupE st'.vE 5 = .int .i64 (prodI (dimsOf sizes cols)) ∧
        ∀ k, k ≤ cols.length → 1 ≤ prodI ((dimsOf sizes cols).take k) ∧ prodI ((dimsOf sizes cols).take k) ≤ 216) ∨ (x = .ret ∧ lookupE st'.vE 4 = .bool true)) := by
  have key := range_loop (tab := tab) (b := 46) (n := 44) (i := 45) (t := 68) (blk := 3) (ex := 2) (body := F7L1)
    (I := fun k st => st.H = [] ∧ st.low = 0 ∧ lookupE st.vE 0 = sv ∧ lookupE st.vE 1 = cv ∧ lookupE st.vE 5 = .int .i64 (prodI ((dimsOf sizes cols).take k)) ∧ lookupE st.vE 43 = cv ∧ lookupE st.vE 45 = .int .i64 k ∧ lookupE st.vE 44 = .int .i64 cols.length ∧
      (cols.take k).any (badCol sizes) = false ∧ ∀ m, m ≤ k → 1 ≤ prodI ((dimsOf sizes cols).take m) ∧ prodI ((dimsOf sizes cols).take m) ≤ 6 ^ m)
    (Q := fun x st => st.H = [] ∧ st.low = 0 ∧ ((x = .exit 2 ∧ cols.any (badCol sizes) = false ∧ lookupE st.vE 0 = sv ∧ lookupE st.vE 1 = cv ∧ lookupE st.vE 5 = .int .i64 (prodI (dimsOf sizes cols)) ∧
        ∀ k, k ≤ cols.length → 1 ≤ prodI ((dimsOf sizes cols).take k) ∧ prodI ((dimsOf sizes cols).take k) ≤ 216) ∨ (x = .ret ∧ lookupE st.vE 4 = .bool true)))
    (N := cols.length) hc.lt (by decide) (by decide)
    (fun k st h => ⟨h.2.2.2.2.2.2.1, h.2.2.2.2.2.2.2.1, by rw [h.1, h.2.1]; exact Nat.le_refl _⟩)
    (by
      rintro k st hk ⟨q1, q2, q3, q4, q5, q6, q7, q8, q9, q10⟩
      obtain ⟨c, hcc⟩ : ∃ c, cols[k]? = some c := ⟨_, List.getElem?_eq_getElem hk⟩
      have hg := hc.get hcc
      have hmem := List.mem_of_getElem? hcc
      by_cases hbad : badCol sizes c = true
      · have hall : (decide (cols.length ≤ 3) && !cols.any (badCol sizes)) = false := by
          have : cols.any (badCol sizes) = true := List.any_eq_true.2 ⟨c, hmem, hbad⟩
          simp [this]
        have ht := tuples_bad hs hc (.inl hall)
        unfold Ans at ht
        simp only [List.length_nil] at ht
        by_cases h1 : c < 0
        · refine ⟨.ret, _, by simp [F7L1, callBody, zipE, execL_seq, execL_region, execL_cond, execL_skip, execL_ret, execL_exit, execL_block, execOps, wantedA, S_mv, S_pick, S_bin, S_un, S_call0, S_call1, S_extract, S_nilEq, S_load, S_alloc, S_box, Opd.ev, lookupE, lookE_setE, St.put, binA, unA, boolOf, freezeVs, freezeV, freeze1, isP, isPs, resultsA, resultA, finish, old, olds, flat, movedH_same, Nat.min_self, loadA, readCells, cellsV, q1, q2, q3, q4, q6, q7, q8, S_index, S_len 1, slE_nil0, el_nil0, hc.sl, hs.isP, hc.isP, hg, h1, ht]; rfl, ?_⟩
          simp [q1, q2, lookE_setE]
        · have h2 : c ≥ sizes.length := by simp [badCol] at hbad; omega
          have h2' : (sizes.length : Int) ≤ c := h2
          have hlen : stepC (callL tab) = stepC (callL tab) := rfl
          refine ⟨.ret, _, by simp [F7L1, callBody, zipE, execL_seq, execL_region, execL_cond, execL_skip, execL_ret, execL_exit, execL_block, execOps, wantedA, S_mv, S_pick, S_bin, S_un, S_call0, S_call1, S_extract, S_nilEq, S_load, S_alloc, S_box, Opd.ev, lookupE, lookE_setE, St.put, binA, unA, boolOf, freezeVs, freezeV, freeze1, isP, isPs, resultsA, resultA, finish, old, olds, flat, movedH_same, Nat.min_self, loadA, readCells, cellsV, q1, q2, q3, q4, q6, q7, q8, S_index, S_len 1, slE_nil0, el_nil0, hs.sl, hs.len, hc.sl, hs.isP, hc.isP, hg, h1, h2, h2', ht]; rfl, ?_⟩
          simp [q1, q2, lookE_setE]
      · have hb' : ¬ c < 0 ∧ ¬ c ≥ sizes.length := by simp [badCol] at hbad; omega
        obtain ⟨h1, h2⟩ := hb'
        have h2' : ¬ (sizes.length : Int) ≤ c := h2
        have c0 : 0 ≤ c := by omega
        obtain ⟨d, hd⟩ : ∃ d, sizes[c.toNat]? = some d := ⟨_, List.getElem?_eq_getElem (by omega)⟩
        have hgd := hs.get hd
        have hdim : (dimsOf sizes cols)[k]? = some d := by simp [dimsOf, hcc, hd]
        have hdo : okSize d = true := List.all_eq_true.1 hok d (List.mem_of_getElem? hd)
        have hd1 : 1 ≤ d ∧ d ≤ 6 := by simpa [okSize] using hdo
        have hp := prodI_take hdim
        obtain ⟨p1, p2⟩ := q10 k (Nat.le_refl _)
        have hmb := mul_bound p1 p2 hd1.1 hd1.2
        rw [← hp] at hmb
        have h216 := pow6 (k := k + 1) (by omega)
        have hw : IntKind.i64.wrap (prodI ((dimsOf sizes cols).take k) * d) = prodI ((dimsOf sizes cols).take (k + 1)) := by rw [← hp, wrap_small] <;> omega
        refine ⟨.normal, _, by simp [F7L1, callBody, zipE, execL_seq, execL_region, execL_cond, execL_skip, execL_ret, execL_exit, execL_block, execOps, wantedA, S_mv, S_pick, S_bin, S_un, S_call0, S_call1, S_extract, S_nilEq, S_load, S_alloc, S_box, Opd.ev, lookupE, lookE_setE, St.put, binA, unA, boolOf, freezeVs, freezeV, freeze1, isP, isPs, resultsA, resultA, finish, old, olds, flat, movedH_same, Nat.min_self, loadA, readCells, cellsV, q1, q2, q3, q4, q5, q6, q7, q8, S_index, S_len 1, hs.sl, hs.len, hc.sl, hg, h1, h2, h2', natOf_nonneg _ c0, hgd, hw]; rfl, ?_⟩
        simp only [true_or, if_true, lookE_setE, q1, q2]
        refine ⟨by simp [q7], by simp, trivial, by simp, by simp [q3], by simp [q4], by simp, by simp [q6], by simp, by simp [q8], ?_, fun m hm => ?_⟩
        · rw [List.take_add_one, hcc]
          simp [q9]
          simpa using hbad
        · by_cases hmk : m = k + 1
          · subst hmk; exact hmb
          · exact q10 m (by omega))
    (by
      rintro st ⟨q1, q2, q3, q4, q5, q6, q7, q8, q9, q10⟩
      rw [List.take_length] at q9
      rw [List.take_of_length_le (by simp [dimsOf])] at q5
      refine ⟨q1, q2, .inl ⟨rfl, q9, by simp [lookE_setE, q3], by simp [lookE_setE, q4], by simp [lookE_setE, q5], fun k hk => ⟨(q10 k hk).1, Int.le_trans (q10 k hk).2 (pow6 (by omega))⟩⟩⟩)
  have hz : ∀ m, m ≤ 0 → 1 ≤ prodI ((dimsOf sizes cols).take m) ∧ prodI ((dimsOf sizes cols).take m) ≤ 6 ^ m := fun m hm => by
    have : m = 0 := by omega
    subst this
    simp [prodI]
  exact key cols.length 0 st (by omega) ⟨eH, eL, e0, e1, by simpa [prodI] using e5, e43, e45, e44, by simp, hz⟩

/-! ### the tuples themselves -/

theorem InR.at {ds t : List Int} (h : InR ds t) {m : Nat} (hm : m < ds.length) : ∃ x d, t[m]? = some x ∧ ds[m]? = some d ∧ 0 ≤ x ∧ x < d := by
  have h1 : m < t.length := by rw [h.1]; exact hm
  exact ⟨t[m], ds[m], List.getElem?_eq_getElem h1, List.getElem?_eq_getElem hm, h.2 m _ _ (List.getElem?_eq_getElem h1) (List.getElem?_eq_getElem hm)⟩

set_option maxHeartbeats 1000000 in
theorem loop4_s {sv cv tu : V} {sizes cols t : List Int} (hs : VI sv sizes) (hc : VI cv cols) (ht : VI tu t) (hin : ∀ c ∈ cols, 0 ≤ c ∧ c < sizes.length) (hR : InR (dimsOf sizes cols) t) {st : St}
    (e0 : lookupE st.vE 0 = sv) (e1 : lookupE st.vE 1 = cv) (e98 : lookupE st.vE 98 = tu) (e99 : lookupE st.vE 99 = .int .i64 t.length) (e100 : lookupE st.vE 100 = .int .i64 0) (eH : st.H = []) (eL : st.low = 0) :
    ∃ st', execL tab (.loop (rangeBody 101 99 100 118 7 6 F7L2)) st = some (.exit 6, st') ∧ st'.H = [] ∧ st'.low = 0 ∧ ∀ s, s ∉ [100, 101, 13, 14, 117] → lookupE st'.vE s = lookupE st.vE s := by
  have hdl : (dimsOf sizes cols).length = cols.length := by simp [dimsOf]
  have key := range_loop (tab := tab) (b := 101) (n := 99) (i := 100) (t := 118) (blk := 7) (ex := 6) (body := F7L2)
    (I := fun k s => s.H = [] ∧ s.low = 0 ∧ lookupE s.vE 0 = sv ∧ lookupE s.vE 1 = cv ∧ lookupE s.vE 98 = tu ∧ lookupE s.vE 100 = .int .i64 k ∧ lookupE s.vE 99 = .int .i64 t.length ∧ ∀ q, q ∉ [100, 101, 13, 14, 117] → lookupE s.vE q = lookupE st.vE q)
    (Q := fun x s => x = .exit 6 ∧ s.H = [] ∧ s.low = 0 ∧ ∀ q, q ∉ [100, 101, 13, 14, 117] → lookupE s.vE q = lookupE st.vE q)
    (N := t.length) ht.lt (by decide) (by decide)
    (fun k s h => ⟨h.2.2.2.2.2.1, h.2.2.2.2.2.2.1, by rw [h.1, h.2.1]; exact Nat.le_refl _⟩)
    (by
      rintro k s hk ⟨q1, q2, q3, q4, q5, q6, q7, q8⟩
      have hkc : k < cols.length := by rw [← hdl, ← hR.1]; exact hk
      obtain ⟨x, d, hx, hdd, x0, xd⟩ := hR.at (m := k) (by rw [hdl]; exact hkc)
      obtain ⟨c, hcc⟩ : ∃ c, cols[k]? = some c := ⟨_, List.getElem?_eq_getElem hkc⟩
      obtain ⟨c0, c1⟩ := hin c (List.mem_of_getElem? hcc)
      obtain ⟨d', hd'⟩ : ∃ d, sizes[c.toNat]? = some d := ⟨_, List.getElem?_eq_getElem (by omega)⟩
      have hdim : (dimsOf sizes cols)[k]? = some d' := by simp [dimsOf, hcc, hd']
      rw [hdim] at hdd; cases hdd
      have hgx := ht.get hx
      have hgc := hc.get hcc
      have hgd := hs.get hd'
      have h1 : ¬ x < 0 := by omega
      have h2 : ¬ x ≥ d := by omega
      have h2' : ¬ d ≤ x := by omega
      refine ⟨.normal, _, by simp [F7L2, callBody, zipE, execL_seq, execL_region, execL_cond, execL_skip, execL_ret, execL_exit, execL_block, execOps, wantedA, S_mv, S_pick, S_bin, S_un, S_call0, S_call1, S_extract, S_nilEq, S_load, S_alloc, S_box, Opd.ev, lookupE, lookE_setE, St.put, binA, unA, boolOf, freezeVs, freezeV, freeze1, isP, isPs, resultsA, resultA, finish, old, olds, flat, movedH_same, Nat.min_self, loadA, readCells, cellsV, q1, q2, q3, q4, q5, q6, q7, S_index, ht.sl, hc.sl, hs.sl, hgx, hgc, hgd, natOf_nonneg _ c0, h1, h2, h2']; rfl, ?_⟩
      simp only [true_or, if_true, lookE_setE, q1, q2]
      refine ⟨by simp [q6], by simp, trivial, by simp, by simp [q3], by simp [q4], by simp [q5], by simp, by simp [q7], fun q hq => ?_⟩
      have hq' := hq
      simp only [List.mem_cons, List.not_mem_nil, or_false, not_or] at hq'
      obtain ⟨z1, z2, z3, z4, z5⟩ := hq'
      simp [z1, z2, z3, z4, z5, q8 q hq])
    (by
      rintro s ⟨q1, q2, q3, q4, q5, q6, q7, q8⟩
      refine ⟨rfl, q1, q2, fun q hq => ?_⟩
      have hq' := hq
      simp only [List.mem_cons, List.not_mem_nil, or_false, not_or] at hq'
      simp [lookE_setE, hq'.2.1, q8 q hq])
  obtain ⟨x, st', h1, rfl, h2, h3, h4⟩ := key t.length 0 st (by omega) ⟨eH, eL, e0, e1, e98, e100, e99, fun q _ => rfl⟩
  exact ⟨st', h1, h2, h3, h4⟩

set_option maxHeartbeats 2000000 in
theorem loop3_s {sv cv lv : V} {LL : List V} {sizes cols : List Int} (hs : VI sv sizes) (hc : VI cv cols) (hin : ∀ c ∈ cols, 0 ≤ c ∧ c < sizes.length) (hd : ∀ d ∈ dimsOf sizes cols, 1 ≤ d) {W : Nat} (hW : prodI (dimsOf sizes cols) = W) (hWb : W ≤ 1000)
    (hl : lv = .list 1 LL) (hlen : LL.length = W) (hLL : ∀ k, k < W → ∃ v, LL[k]? = some v ∧ VI v (tk (dimsOf sizes cols) k) ∧ cellsV v = [v]) {st : St}
    (e0 : lookupE st.vE 0 = sv) (e1 : lookupE st.vE 1 = cv) (e10 : lookupE st.vE 10 = lv) (e72 : lookupE st.vE 72 = lv) (e73 : lookupE st.vE 73 = .int .i64 W) (e74 : lookupE st.vE 74 = .int .i64 0) (e5 : lookupE st.vE 5 = .int .i64 W) (eH : st.H = []) (eL : st.low = 0) :
    ∃ st', execL tab (.loop (rangeBody 75 73 74 119 5 4 F7L3)) st = some (.exit 4, st') ∧ st'.H = [] ∧ st'.low = 0 ∧ lookupE st'.vE 10 = lv ∧ lookupE st'.vE 5 = .int .i64 W := by
  have hdl : (dimsOf sizes cols).length = cols.length := by simp [dimsOf]
  have key := range_loop (tab := tab) (b := 75) (n := 73) (i := 74) (t := 119) (blk := 5) (ex := 4) (body := F7L3)
    (I := fun k s => s.H = [] ∧ s.low = 0 ∧ lookupE s.vE 0 = sv ∧ lookupE s.vE 1 = cv ∧ lookupE s.vE 10 = lv ∧ lookupE s.vE 72 = lv ∧ lookupE s.vE 74 = .int .i64 k ∧ lookupE s.vE 73 = .int .i64 W ∧ lookupE s.vE 5 = .int .i64 W)
    (Q := fun x s => x = .exit 4 ∧ s.H = [] ∧ s.low = 0 ∧ lookupE s.vE 10 = lv ∧ lookupE s.vE 5 = .int .i64 W)
    (N := W) (by omega) (by decide) (by decide)
    (fun k s h => ⟨h.2.2.2.2.2.2.1, h.2.2.2.2.2.2.2.1, by rw [h.1, h.2.1]; exact Nat.le_refl _⟩)
    (by
      rintro k s hk ⟨q1, q2, q3, q4, q5, q6, q7, q8, q9⟩
      subst hl
      obtain ⟨tu, hg, hvi, hcl⟩ := hLL k hk
      have hR := tk_inR hd k
      have hlt : (tk (dimsOf sizes cols) k).length = cols.length := hR.1.trans hdl
      have hgl : (el (.list 1 LL))[k]? = some tu := hg
      have hll : slE 1 (V.list 1 LL) = true := rfl
      have hnb : ((cols.length : Int) != (cols.length : Int)) = false := by simp
      -- the inner loop
      have inner : ∀ (env : Env), lookupE env 0 = sv → lookupE env 1 = cv → lookupE env 12 = tu → ∃ st', execL tab (.loop (rangeBody 101 99 100 118 7 6 F7L2)) { tE := [], vE := setE (setE (setE env 98 tu) 99 (.int .i64 cols.length)) 100 (.int .i64 0), H := [], low := 0, ro := s.ro } = some (.exit 6, st') ∧ st'.H = [] ∧ st'.low = 0 ∧
          ∀ q, q ∉ [100, 101, 13, 14, 117] → lookupE st'.vE q = lookupE (setE (setE (setE env 98 tu) 99 (.int .i64 cols.length)) 100 (.int .i64 0)) q := fun env f0 f1 f12 => by
        refine loop4_s hs hc hvi hin hR ?_ ?_ ?_ ?_ ?_ rfl rfl <;> simp [lookE_setE, f0, f1, hlt]
      have hfin : ∀ (env : Env) (st2 : St), (∀ q, q ∉ [100, 101, 13, 14, 117] → lookupE st2.vE q = lookupE (setE (setE (setE env 98 tu) 99 (.int .i64 cols.length)) 100 (.int .i64 0)) q) → lookupE env 0 = sv → lookupE env 1 = cv → lookupE env 10 = .list 1 LL → lookupE env 72 = .list 1 LL → lookupE env 74 = .int .i64 k → lookupE env 73 = .int .i64 W → lookupE env 5 = .int .i64 W → st2.H = [] → st2.low = 0 →
          (lookupE st2.vE 74 = .int .i64 k ∧ st2.low ≤ st2.H.length ∧ (st2.H = [] ∧ st2.low = 0 ∧ lookupE (setE st2.vE 74 (.int .i64 ((k + 1 : Nat) : Int))) 0 = sv ∧ lookupE (setE st2.vE 74 (.int .i64 ((k + 1 : Nat) : Int))) 1 = cv ∧ lookupE (setE st2.vE 74 (.int .i64 ((k + 1 : Nat) : Int))) 10 = .list 1 LL ∧ lookupE (setE st2.vE 74 (.int .i64 ((k + 1 : Nat) : Int))) 72 = .list 1 LL ∧
            lookupE (setE st2.vE 74 (.int .i64 ((k + 1 : Nat) : Int))) 74 = .int .i64 ((k + 1 : Nat) : Int) ∧ lookupE (setE st2.vE 74 (.int .i64 ((k + 1 : Nat) : Int))) 73 = .int .i64 W ∧ lookupE (setE st2.vE 74 (.int .i64 ((k + 1 : Nat) : Int))) 5 = .int .i64 W)) := fun env st2 hq g0 g1 g10 g72 g74 g73 g5 gH gL => by
        refine ⟨by rw [hq 74 (by decide)]; simp [lookE_setE, g74], by rw [gL]; exact Nat.zero_le _, gH, gL, ?_, ?_, ?_, ?_, by simp [lookE_setE], ?_, ?_⟩
        · simp only [lookE_setE]; rw [hq 0 (by decide)]; simp [lookE_setE, g0]
        · simp only [lookE_setE]; rw [hq 1 (by decide)]; simp [lookE_setE, g1]
        · simp only [lookE_setE]; rw [hq 10 (by decide)]; simp [lookE_setE, g10]
        · simp only [lookE_setE]; rw [hq 72 (by decide)]; simp [lookE_setE, g72]
        · simp only [lookE_setE]; rw [hq 73 (by decide)]; simp [lookE_setE, g73]
        · simp only [lookE_setE]; rw [hq 5 (by decide)]; simp [lookE_setE, g5]
      by_cases hk0 : k = 0
      · have hgt : ¬ (k : Int) > 0 := by omega
        have hgt' : ¬ 0 < k := by omega
        obtain ⟨st2, r1, r2, r3, r4⟩ := inner (setE (setE (setE (setE s.vE 75 (.bool true)) 11 (.int .i64 k)) 12 tu) 97 (.bool false)) (by simp [lookE_setE, q3]) (by simp [lookE_setE, q4]) (by simp [lookE_setE])
        refine ⟨.normal, st2, by simp [F7L3, callBody, zipE, execL_seq, execL_region, execL_cond, execL_skip, execL_ret, execL_exit, execL_block, execOps, wantedA, S_mv, S_pick, S_bin, S_un, S_call0, S_call1, S_extract, S_nilEq, S_load, S_alloc, Opd.ev, lookupE, lookE_setE, St.put, binA, unA, boolOf, freezeVs, freezeV, freeze1, isP, isPs, resultsA, resultA, finish, old, olds, flat, movedH_same, Nat.min_self, loadA, readCells, cellsV_int, q1, q2, q3, q4, q5, q6, q7, q8, S_index, S_len 1, hll, hgl, hcl, hvi.sl, hvi.len, hlt, hc.sl, hc.len, hgt, hgt', r1], ?_⟩
        simp only [true_or, if_true]
        exact hfin _ st2 r4 (by simp [lookE_setE, q3]) (by simp [lookE_setE, q4]) (by simp [lookE_setE, q5]) (by simp [lookE_setE, q6]) (by simp [lookE_setE, q7]) (by simp [lookE_setE, q8]) (by simp [lookE_setE, q9]) r2 r3
      · have hgt : (k : Int) > 0 := by omega
        have hgt' : 0 < k := by omega
        obtain ⟨tp, hgp, hvp, hcp⟩ := hLL (k - 1) (by omega)
        obtain ⟨j, x, j1, j2, j3, j4⟩ := tk_rises hd (k := k - 1) (by rw [hW]; omega)
        have hk1 : k - 1 + 1 = k := by omega
        rw [hk1] at j3 j4
        have hcmp := compareL_s (H := []) hvp hvi j2 j3 j4
        unfold Ans at hcmp
        simp only [List.length_nil] at hcmp
        have hw : IntKind.i64.wrap ((k : Int) - 1) = ((k - 1 : Nat) : Int) := by rw [wrap_small] <;> omega
        have hglp : (el (.list 1 LL))[k - 1]? = some tp := hgp
        have hge : ¬ (-1 : Int) ≥ 0 := by decide
        obtain ⟨st2, r1, r2, r3, r4⟩ := inner (setE (setE (setE (setE s.vE 75 (.bool true)) 11 (.int .i64 k)) 12 tu) 97 (.bool false)) (by simp [lookE_setE, q3]) (by simp [lookE_setE, q4]) (by simp [lookE_setE])
        refine ⟨.normal, st2, by simp [F7L3, callBody, zipE, execL_seq, execL_region, execL_cond, execL_skip, execL_ret, execL_exit, execL_block, execOps, wantedA, S_mv, S_pick, S_bin, S_un, S_call0, S_call1, S_extract, S_nilEq, S_load, S_alloc, Opd.ev, lookupE, lookE_setE, St.put, binA, unA, boolOf, freezeVs, freezeV, freeze1, isP, isPs, resultsA, resultA, finish, old, olds, flat, movedH_same, Nat.min_self, loadA, readCells, cellsV_int, q1, q2, q3, q4, q5, q6, q7, q8, S_index, S_len 1, hll, hgl, hglp, hcl, hcp, hvi.sl, hvi.len, hvi.isP, hvp.isP, hlt, hc.sl, hc.len, hgt, hgt', hw, hcmp, r1], ?_⟩
        simp only [true_or, if_true]
        exact hfin _ st2 r4 (by simp [lookE_setE, q3]) (by simp [lookE_setE, q4]) (by simp [lookE_setE, q5]) (by simp [lookE_setE, q6]) (by simp [lookE_setE, q7]) (by simp [lookE_setE, q8]) (by simp [lookE_setE, q9]) r2 r3)
    (by
      rintro s ⟨q1, q2, q3, q4, q5, q6, q7, q8, q9⟩
      exact ⟨rfl, q1, q2, by simp [lookE_setE, q5], by simp [lookE_setE, q9]⟩)
  obtain ⟨x, st', h1, rfl, h2, h3, h4, h5⟩ := key W 0 st (by omega) ⟨eH, eL, e0, e1, e10, e72, e74, e73, e5⟩
  exact ⟨st', h1, h2, h3, h4, h5⟩
end Go.Abs.T09
