/- The reference's place, Cell, nth and Tuple answer as cells.Cell and cells.Tuple do. -/
import Derived.Test.YteiajndkjnlmiaaGreatDoorP10
import Derived.Test.YteiajndkjnlmiaaGreatDoorP09
import Derived.Test.YteiajndkjnlmiaaGreatDoorP07
set_option linter.unusedVariables false
set_option linter.unusedSimpArgs false
namespace Go.Abs.T09
open Go Go.Abs

/-! ### the place of a tuple -/
theorem valP_snoc {ds t : List Int} {d x : Int} (h : t.length = ds.length) : valP (ds ++ [d]) (t ++ [x]) (ds.length + 1) = valP ds t ds.length * d + x := by
  have e : ∀ i, i ≤ ds.length → valP (ds ++ [d]) (t ++ [x]) i = valP ds t i := by
    intro i
    induction i with
    | zero => intro _; rfl
    | succ i ih =>
      intro hi
      simp only [valP]
      rw [ih (by omega), List.getElem?_append_left (by omega), List.getElem?_append_left (by omega)]
  simp only [valP]
  rw [e _ (Nat.le_refl _)]
  rw [List.getElem?_append_right (Nat.le_refl _), List.getElem?_append_right (by omega)]
  simp [h]

theorem InR.snoc {ds t : List Int} {d x : Int} (h : InR ds t) (h0 : 0 ≤ x) (h1 : x < d) : InR (ds ++ [d]) (t ++ [x]) := by
  have hl := h.1
  refine ⟨by simp [hl], fun i y e hy he => ?_⟩
  rcases Nat.lt_or_ge i ds.length with hi | hi
  · rw [List.getElem?_append_left (by omega)] at hy he
    exact h.2 i y e hy he
  · rw [List.getElem?_append_right (by omega)] at hy he
    rw [hl] at hy
    rcases Nat.eq_zero_or_pos (i - ds.length) with hz | hz
    · rw [hz] at hy he
      simp at hy he
      subst hy; subst he
      exact ⟨h0, h1⟩
    · rw [List.getElem?_eq_none (by simp; omega)] at hy; cases hy

theorem InR.init {ds t : List Int} {d x : Int} (h : InR (ds ++ [d]) (t ++ [x])) (hl : t.length = ds.length) : InR ds t ∧ 0 ≤ x ∧ x < d := by
  refine ⟨⟨hl, fun i y e hy he => ?_⟩, ?_⟩
  · have hi : i < ds.length := by
      rcases Nat.lt_or_ge i ds.length with hi | hi
      · exact hi
      · rw [List.getElem?_eq_none hi] at he; cases he
    exact h.2 i y e (by rw [List.getElem?_append_left (by omega)]; exact hy) (by rw [List.getElem?_append_left (by omega)]; exact he)
  · exact h.2 ds.length x d (by rw [← hl]; simp) (by simp)

/-- The tuples stand at the numbers that they spell. -/
theorem tupsF_iff {ds : List Int} (hd : ∀ d ∈ ds, 1 ≤ d) : ∀ k, k ≤ ds.length → ∀ (j : Nat) (t : List Int), (tupsF (ds.take k))[j]? = some t ↔ InR (ds.take k) t ∧ valP (ds.take k) t (ds.take k).length = j
  | 0, _, j, t => by
    simp only [List.take_zero, tupsF, List.foldl_nil, List.length_nil, valP]
    cases j with
    | zero =>
      simp only [List.getElem?_cons_zero, Option.some.injEq]
      constructor
      · rintro rfl; exact ⟨⟨rfl, fun i x d hx => by simp at hx⟩, rfl⟩
      · rintro ⟨h, -⟩; exact (List.length_eq_zero_iff.1 h.1).symm
    | succ j =>
      simp
      intro _ h
      omega
  | k + 1, hk, j, t => by
    obtain ⟨d, hdk⟩ : ∃ d, ds[k]? = some d := ⟨_, List.getElem?_eq_getElem (by omega)⟩
    have hd1 := hd d (List.mem_of_getElem? hdk)
    have e : ds.take (k + 1) = ds.take k ++ [d] := by rw [List.take_add_one, hdk]; rfl
    have ih := tupsF_iff hd k (by omega)
    have hlk : (ds.take k).length = k := by simp; omega
    rw [e, tupsF_snoc, grow_get _ hd1]
    have hlen1 : (ds.take k ++ [d]).length = (ds.take k).length + 1 := by simp
    rw [hlen1]
    constructor
    · intro h
      obtain ⟨u, hu, hut⟩ : ∃ u, (tupsF (ds.take k))[j / d.toNat]? = some u ∧ u ++ [((j % d.toNat : Nat) : Int)] = t := by
        cases hq : (tupsF (ds.take k))[j / d.toNat]? with
        | none => rw [hq] at h; cases h
        | some u => rw [hq] at h; exact ⟨u, rfl, Option.some.inj h⟩
      obtain ⟨h1, h2⟩ := (ih _ _).1 hu
      have hm : j % d.toNat < d.toNat := Nat.mod_lt _ (by omega)
      subst hut
      refine ⟨h1.snoc (by omega) (by omega), ?_⟩
      rw [valP_snoc h1.1, h2]
      have hdm := Nat.div_add_mod j d.toNat
      have e2 : ((j / d.toNat : Nat) : Int) * d = ((j / d.toNat * d.toNat : Nat) : Int) := by rw [Int.natCast_mul, Int.toNat_of_nonneg (by omega)]
      rw [e2]
      rw [Nat.mul_comm] at hdm
      omega
    · rintro ⟨h1, h2⟩
      have hl : t.length = k + 1 := by rw [h1.1, hlen1, hlk]
      obtain ⟨u, x, rfl⟩ : ∃ u x, t = u ++ [x] := by
        refine ⟨t.dropLast, t.getLast (by intro h; rw [h] at hl; simp at hl), ?_⟩
        rw [List.dropLast_concat_getLast]
      have hul : u.length = (ds.take k).length := by simp at hl; omega
      obtain ⟨g1, g2, g3⟩ := h1.init hul
      rw [valP_snoc hul] at h2
      have hv := valP_lt (ds := ds.take k) (t := u) (fun d hd' => hd d (List.mem_of_mem_take hd')) (ds.take k).length (Nat.le_refl _) (fun j x d _ hx hd => g1.2 j x d hx hd) (by omega)
      have hA := (ih (valP (ds.take k) u (ds.take k).length).toNat u).2 ⟨g1, by rw [Int.toNat_of_nonneg hv.1]⟩
      generalize valP (ds.take k) u (ds.take k).length = A at *
      obtain ⟨a, rfl⟩ := Int.eq_ofNat_of_zero_le hv.1
      obtain ⟨y, rfl⟩ := Int.eq_ofNat_of_zero_le g2
      obtain ⟨D, rfl⟩ := Int.eq_ofNat_of_zero_le (show 0 ≤ d by omega)
      have hj : j = a * D + y := by omega
      have hyD : y < D := by omega
      simp only [Int.toNat_natCast] at *
      have hq : j / D = a := by rw [hj, Nat.mul_comm, Nat.mul_add_div (by omega), Nat.div_eq_of_lt hyD]; omega
      have hr : j % D = y := by rw [hj, Nat.mul_comm, Nat.mul_add_mod, Nat.mod_eq_of_lt hyD]
      rw [hq, hr, hA]
      rfl

theorem tupsF_iff' {ds : List Int} (hd : ∀ d ∈ ds, 1 ≤ d) (j : Nat) (t : List Int) : (tupsF ds)[j]? = some t ↔ InR ds t ∧ valP ds t ds.length = j := by
  have := tupsF_iff hd ds.length (Nat.le_refl _) j t
  rwa [List.take_length] at this

open Classical in
theorem place_law {ds tu : List Int} (hd : ∀ d ∈ ds, 1 ≤ d) : (match (tupsF ds).findIdx? (· == tu) with | some k => (k : Int) | none => -1) = if InR ds tu then valP ds tu tu.length else -1 := by
  split
  · rename_i k hk
    obtain ⟨h1, h2, h3⟩ := List.findIdx?_eq_some_iff_getElem.1 hk
    have e : (tupsF ds)[k]? = some tu := by rw [List.getElem?_eq_getElem h1]; simpa using h2
    obtain ⟨a, b⟩ := (tupsF_iff' hd k tu).1 e
    rw [if_pos a, a.1, b]
  · rename_i hk
    rw [List.findIdx?_eq_none_iff] at hk
    by_cases hR : InR ds tu
    · exfalso
      have hv := valP_lt (ds := ds) (t := tu) hd ds.length (Nat.le_refl _) (fun j x d _ hx hd => hR.2 j x d hx hd) (by rw [hR.1]; exact Nat.le_refl _)
      have e := (tupsF_iff' hd (valP ds tu ds.length).toNat tu).2 ⟨hR, by rw [Int.toNat_of_nonneg hv.1]⟩
      have := hk tu (List.mem_of_getElem? e)
      simp at this
    · rw [if_neg hR]

def F32LB : ACode := .seq (.region [⟨some (12, false), .mv (.var 0), none⟩, ⟨some (13, false), .mv (.var 5), none⟩, ⟨some (14, false), .indexAddr 1 (.tmp 12) (.tmp 13), none⟩, ⟨some (15, false), .load none (.tmp 14), none⟩, ⟨some (16, false), .mv (.var 1), none⟩, ⟨some (17, true), .call false (.func 14) [(.tmp 15), (.tmp 16)], none⟩] none) (.cond (.var 17) (.seq (.region [⟨some (18, false), .mv (.var 5), none⟩, ⟨some (4, true), .mv (.tmp 18), none⟩] none) (.ret)) (.skip))
theorem F32L0_for : F32L0 = forBody 9 5 0 6 7 8 10 11 1 0 F32LB := rfl

set_option maxHeartbeats 1000000 in
theorem place_s {v uv : V} {l : List (List Int)} {tu : List Int} (hsl : slE 1 v = true) (hel : el v = l.map tupV) (hlt : l.length < 4611686018427387904) (hls : ∀ t ∈ l, t.length < 4611686018427387904) (hu : VI uv tu) (H : Heap) :
    Ans (.fn 32 [] []) [v, uv] H (.int .i64 (match l.findIdx? (· == tu) with | some k => (k : Int) | none => -1)) := by
  unfold Ans
  have key := for_loop (tab := tab) (b := 9) (i := 5) (xs := 0) (t1 := 6) (t2 := 7) (t3 := 8) (t4 := 10) (t5 := 11) (blk := 1) (ex := 0) (es := 1) (body := F32LB)
    (I := fun k st => st.H = H ∧ st.low = H.length ∧ lookupE st.vE 0 = v ∧ lookupE st.vE 1 = uv ∧ lookupE st.vE 5 = .int .i64 k ∧ ∀ t ∈ l.take k, (t == tu) = false)
    (Q := fun x st => st.H = H ∧ st.low = H.length ∧ ((x = .exit 0 ∧ l.findIdx? (· == tu) = none) ∨ (x = .ret ∧ ∃ k, l.findIdx? (· == tu) = some k ∧ lookupE st.vE 4 = .int .i64 k)))
    (N := l.length) hlt (by decide) (by decide) (by decide)
    (fun k st h => ⟨h.2.2.2.2.1, by rw [h.2.2.1]; exact hsl, by rw [h.2.2.1, hel]; simp, by rw [h.1, h.2.1]; exact Nat.le_refl _⟩)
    (by
      rintro k st hk ⟨h1, h2, h3, h4, h5, h7⟩
      obtain ⟨t, hx⟩ : ∃ t, l[k]? = some t := ⟨_, List.getElem?_eq_getElem hk⟩
      have hg : (el v)[k]? = some (tupV t) := by rw [hel]; simp [hx]
      have c := ints_s (tupV_VI (hls t (List.mem_of_getElem? hx))) hu H
      unfold Ans at c
      have hip := isP_tupV t
      cases he : (t == tu) with
      | true =>
        rw [he] at c
        refine ⟨.ret, _, by simp [F32LB, callBody, zipE, execL_seq, execL_region, execL_cond, execL_skip, execL_ret, execL_exit, execL_block, execOps, wantedA, S_mv, S_pick, S_bin, S_un, S_call0, S_call1, S_extract, S_nilEq, S_load, S_alloc, Opd.ev, lookupE, lookE_setE, St.put, binA, unA, boolOf, freezeVs, freezeV, freeze1, isP, isPs, resultsA, resultA, finish, old, olds, flat, movedH_same, Nat.min_self, loadA, readCells, cellsV_int, h1, h2, h3, h4, h5, S_index, hsl, hg, cellsV_tupV, hip, slE_isP hu.sl, c]; rfl, ?_⟩
        simp only [reduceCtorEq, or_self, if_false]
        refine ⟨by simp, by simp, .inr ⟨trivial, k, ?_, by simp [lookE_setE]⟩⟩
        rw [List.findIdx?_eq_some_iff_getElem]
        refine ⟨hk, ?_, fun j hj => ?_⟩
        · have : l[k] = t := by rw [List.getElem?_eq_getElem hk] at hx; exact Option.some.inj hx
          rw [this]; exact he
        · have hj' : (l.take k)[j]? = some (l[j]'(by omega)) := by rw [List.getElem?_take, if_pos hj, List.getElem?_eq_getElem (by omega)]
          have := h7 _ (List.mem_of_getElem? hj')
          simp [this]
      | false =>
        rw [he] at c
        refine ⟨.normal, _, by simp [F32LB, callBody, zipE, execL_seq, execL_region, execL_cond, execL_skip, execL_ret, execL_exit, execL_block, execOps, wantedA, S_mv, S_pick, S_bin, S_un, S_call0, S_call1, S_extract, S_nilEq, S_load, S_alloc, Opd.ev, lookupE, lookE_setE, St.put, binA, unA, boolOf, freezeVs, freezeV, freeze1, isP, isPs, resultsA, resultA, finish, old, olds, flat, movedH_same, Nat.min_self, loadA, readCells, cellsV_int, h1, h2, h3, h4, h5, S_index, hsl, hg, cellsV_tupV, hip, slE_isP hu.sl, c]; rfl, ?_⟩
        simp only [true_or, if_true, lookE_setE, h1, h2]
        refine ⟨by simp [h5], by simp, by simp, by simp, by simp [h3], by simp [h4], by simp, fun u hu => ?_⟩
        rw [List.take_add_one, hx] at hu
        simp at hu
        rcases hu with hu | rfl
        · exact h7 u hu
        · exact he)
    (by
      rintro st ⟨h1, h2, h3, h4, h5, h7⟩
      refine ⟨h1, h2, .inl ⟨rfl, ?_⟩⟩
      rw [List.findIdx?_eq_none_iff]
      rw [List.take_length] at h7
      exact h7)
  obtain ⟨x, st', h1, h2, h3, h4⟩ := key l.length 0 { tE := [], vE := [(0, v), (1, uv), (4, .int .i64 0), (5, .int .i64 0)], H := H, low := H.length } (by omega) ⟨rfl, rfl, rfl, rfl, rfl, fun m hm => by simp at hm⟩
  rw [← F32L0_for] at h1
  rw [callL_fn, show tab 32 = some (.code F32) from rfl]
  rcases h4 with ⟨rfl, h4⟩ | ⟨rfl, k, h4, h5⟩
  · rw [h4]; simp [F32, callBody, zipE, execL_seq, execL_region, execL_cond, execL_skip, execL_ret, execL_exit, execL_block, execOps, wantedA, S_mv, S_pick, S_bin, S_un, S_call0, S_call1, S_extract, S_nilEq, S_load, S_alloc, S_box, Opd.ev, lookupE, setE, St.put, binA, unA, boolOf, freezeVs, freezeV, freeze1, isP, isPs, resultsA, resultA, finish, old, olds, flat, movedH_same, Nat.min_self, loadA, readCells, cellsV, h1, h2, h3, lookE_setE]
  · rw [h4]; simp [F32, callBody, zipE, execL_seq, execL_region, execL_cond, execL_skip, execL_ret, execL_exit, execL_block, execOps, wantedA, S_mv, S_pick, S_bin, S_un, S_call0, S_call1, S_extract, S_nilEq, S_load, S_alloc, S_box, Opd.ev, lookupE, setE, St.put, binA, unA, boolOf, freezeVs, freezeV, freeze1, isP, isPs, resultsA, resultA, finish, old, olds, flat, movedH_same, Nat.min_self, loadA, readCells, cellsV, h1, h2, h3, h5, lookE_setE]

set_option maxHeartbeats 1000000 in
theorem cell2_s {sizes tu : List Int} {sv tv uv : V} {ts : List Tb} {table : Int} (hs : VI sv sizes) (ht : VT tv ts) (hnm : ∀ t ∈ ts, t.name.length ≤ 4096) (hu : VI uv tu) (H : Heap) :
    Ans (.fn 11 [] []) [sv, tv, .int .i64 table, uv] H (.tup [.int .i64 (cellR sizes ts table tu).1, .int .i64 (cellR sizes ts table tu).2]) := by
  have hv := valid2_s hs ht hnm H
  unfold Ans at *
  rw [callL_fn, show tab 11 = some (.code F11) from rfl]
  unfold cellR
  cases hV : validB sizes ts with
  | false =>
    rw [hV] at hv
    simp [F11, callBody, zipE, execL_seq, execL_region, execL_cond, execL_skip, execL_ret, execL_exit, execL_block, execOps, wantedA, S_mv, S_pick, S_bin, S_un, S_call0, S_call1, S_extract, S_nilEq, S_load, S_alloc, Opd.ev, lookupE, setE, St.put, binA, unA, boolOf, freezeVs, freezeV, freeze1, isP, isPs, resultsA, resultA, finish, old, olds, flat, movedH_same, Nat.min_self, loadA, readCells, cellsV_int, slE_isP hs.sl, slE_isP ht.sl, hv]
  | true =>
    rw [hV] at hv
    have hVd := valid_iff.1 hV
    by_cases h0 : table < 0
    · simp [F11, callBody, zipE, execL_seq, execL_region, execL_cond, execL_skip, execL_ret, execL_exit, execL_block, execOps, wantedA, S_mv, S_pick, S_bin, S_un, S_call0, S_call1, S_extract, S_nilEq, S_load, S_alloc, Opd.ev, lookupE, setE, St.put, binA, unA, boolOf, freezeVs, freezeV, freeze1, isP, isPs, resultsA, resultA, finish, old, olds, flat, movedH_same, Nat.min_self, loadA, readCells, cellsV_int, slE_isP hs.sl, slE_isP ht.sl, hv, h0]
    · by_cases h1 : (ts.length : Int) ≤ table
      · simp [F11, callBody, zipE, execL_seq, execL_region, execL_cond, execL_skip, execL_ret, execL_exit, execL_block, execOps, wantedA, S_mv, S_pick, S_bin, S_un, S_call0, S_call1, S_extract, S_nilEq, S_load, S_alloc, Opd.ev, lookupE, setE, St.put, binA, unA, boolOf, freezeVs, freezeV, freeze1, isP, isPs, resultsA, resultA, finish, old, olds, flat, movedH_same, Nat.min_self, loadA, readCells, cellsV_int, slE_isP hs.sl, slE_isP ht.sl, hv, h0, h1, S_len 6, ht.sl, ht.len]
      · obtain ⟨t, het⟩ : ∃ t, ts[table.toNat]? = some t := ⟨_, List.getElem?_eq_getElem (by omega)⟩
        have hto := ht.ok t (List.mem_of_getElem? het)
        have hg := ht.get het
        have hnn : 0 ≤ table := by omega
        have hgc := hVd.good het
        have hd := dims_in hVd.ok hgc
        have hd1 : ∀ d ∈ dimsOf sizes t.cl, 1 ≤ d := fun d h => (hd d h).1
        have ct := tuples26_s hs hto.cols H
        have hR : tupsR sizes t.cl = .list 1 ((tupsF (dimsOf sizes t.cl)).map tupV) := by simp [tupsR, hgc, hVd.ok]
        rw [hR] at ct
        have hll := tupsF_length hd1
        have hwd := hVd.widb het
        unfold wid at hwd
        have cp := place_s (v := .list 1 ((tupsF (dimsOf sizes t.cl)).map tupV)) (l := tupsF (dimsOf sizes t.cl)) rfl rfl (by omega) (fun u hu' => by
          have := tupsF_lens hd1 (dimsOf sizes t.cl).length (Nat.le_refl _) u (by rw [List.take_length]; exact hu')
          have := (goodCols_in hgc).1
          have : (dimsOf sizes t.cl).length = t.cl.length := by simp [dimsOf]
          omega) hu H
        rw [place_law hd1] at cp
        unfold Ans at ct cp
        have hip := isPs_tups (tupsF (dimsOf sizes t.cl))
        simp only [het]
        by_cases hRR : InR (dimsOf sizes t.cl) tu
        · rw [if_pos hRR] at cp
          have hb := valP_lt (fun d h => (hd d h).1) (dimsOf sizes t.cl).length (Nat.le_refl _) (fun j x d _ hx hd => hRR.2 j x d hx hd) (by rw [hRR.1]; exact Nat.le_refl _)
          rw [prodP_take _ _ (Nat.le_refl _), List.take_length, ← hRR.1] at hb
          have hfi := hVd.end_le het
          have hsa := hVd.sum_all (strictB t)
          have hw : IntKind.i64.wrap (t.first + valP (dimsOf sizes t.cl) tu tu.length) = t.first + valP (dimsOf sizes t.cl) tu tu.length := by
            unfold wid at hfi; rw [wrap_small] <;> omega
          have hnl : ¬ valP (dimsOf sizes t.cl) tu tu.length < 0 := by omega
          simp [F11, callBody, zipE, execL_seq, execL_region, execL_cond, execL_skip, execL_ret, execL_exit, execL_block, execOps, wantedA, S_mv, S_pick, S_bin, S_un, S_call0, S_call1, S_extract, S_nilEq, S_load, S_alloc, Opd.ev, lookupE, setE, St.put, binA, unA, boolOf, freezeVs, freezeV, freeze1, isP, isPs, resultsA, resultA, finish, old, olds, flat, movedH_same, Nat.min_self, loadA, readCells, cellsV_int, slE_isP hs.sl, slE_isP ht.sl, slE_isP hto.cols.sl, slE_isP hu.sl, hv, h0, h1, S_len 6, ht.sl, ht.len, S_index, natOf_nonneg _ hnn, hg, cellsV_tb, Tb.len, Tb.c2, Tb.e2, Tb.c5, Tb.e5, S_fieldAddr, ct, cp, hip, hRR, hw, hnl]
        · rw [if_neg hRR] at cp
          simp [F11, callBody, zipE, execL_seq, execL_region, execL_cond, execL_skip, execL_ret, execL_exit, execL_block, execOps, wantedA, S_mv, S_pick, S_bin, S_un, S_call0, S_call1, S_extract, S_nilEq, S_load, S_alloc, Opd.ev, lookupE, setE, St.put, binA, unA, boolOf, freezeVs, freezeV, freeze1, isP, isPs, resultsA, resultA, finish, old, olds, flat, movedH_same, Nat.min_self, loadA, readCells, cellsV_int, slE_isP hs.sl, slE_isP ht.sl, slE_isP hto.cols.sl, slE_isP hu.sl, hv, h0, h1, S_len 6, ht.sl, ht.len, S_index, natOf_nonneg _ hnn, hg, cellsV_tb, Tb.len, Tb.c2, Tb.e2, Tb.c5, Tb.e5, S_fieldAddr, ct, cp, hip, hRR]
end Go.Abs.T09
/- The reference's nth and Tuple. -/
namespace Go.Abs.T09
open Go Go.Abs

def keepN (e e' : Env) : Prop := ∀ s, s ≠ 2 → s ≠ 8 → s ≠ 16 → lookupE e' s = lookupE e s

set_option maxHeartbeats 1000000 in
theorem nth_loop {sizes cols : List Int} {sv cv : V} {q m0 n : Nat} (hs : VI sv sizes) (hc : VI cv cols) (hok : sizes.all okSize = true) (hgc : goodCols sizes cols = true) (hn : cols.length = n) (hmq : m0 ≤ q) :
    ∀ (i : Nat) (k : Int) (tu : List Int) (st : St), tu.length = n → i ≤ n → 0 ≤ k → k ≤ 1000000 → st.H[q]? = some (rowI tu) → st.low = m0 →
      lookupE st.vE 0 = sv → lookupE st.vE 1 = cv → lookupE st.vE 7 = .sref q 1 0 n n → lookupE st.vE 8 = .int .i64 ((i : Int) - 1) → lookupE st.vE 2 = .int .i64 k →
      ∃ st', execL tab (.loop F37L0) st = some (.exit 0, st') ∧ st'.H[q]? = some (rowI (dg (dimsOf sizes cols) i k tu)) ∧ st'.low = m0 ∧ keepN st.vE st'.vE
  | 0, k, tu, st, htu, hi, hk0, hk1, hq, hl1, l0, l1, l7, l8, l2 => by
    have hqH : q < st.H.length := by
      rcases Nat.lt_or_ge q st.H.length with h | h
      · exact h
      · rw [List.getElem?_eq_none h] at hq; cases hq
    have hlow : min m0 st.H.length = m0 := Nat.min_eq_left (by omega)
    rw [execL_loop]
    refine ⟨_, by simp [F37L0, callBody, zipE, execL_seq, execL_region, execL_cond, execL_skip, execL_ret, execL_exit, execL_block, execOps, wantedA, S_mv, S_pick, S_bin, S_un, S_call0, S_call1, S_extract, S_nilEq, S_load, S_alloc, Opd.ev, lookupE, lookE_setE, St.put, binA, unA, boolOf, freezeVs, freezeV, freeze1, isP, isPs, resultsA, resultA, finish, old, olds, flat, movedH_same, Nat.min_self, loadA, readCells, cellsV_int, l8]; rfl, ?_⟩
    refine ⟨by simpa [dg] using hq, by simp [hl1, hlow], fun s a b c => by simp [lookE_setE, c]⟩
  | i + 1, k, tu, st, htu, hi, hk0, hk1, hq, hl1, l0, l1, l7, l8, l2 => by
    have hit : i < tu.length := by omega
    obtain ⟨c, hcc⟩ : ∃ c, cols[i]? = some c := ⟨_, List.getElem?_eq_getElem (by omega)⟩
    obtain ⟨c0, c1⟩ := (goodCols_in hgc).2 c (List.mem_of_getElem? hcc)
    obtain ⟨d, hsd⟩ : ∃ d, sizes[c.toNat]? = some d := ⟨_, List.getElem?_eq_getElem (by omega)⟩
    have hdim : (dimsOf sizes cols)[i]? = some d := by simp [dimsOf, hcc, hsd]
    have hd1 := dims_in hok hgc d (List.mem_of_getElem? hdim)
    have hgc' := hc.get hcc
    have hgd := hs.get hsd
    have e8 : ((i + 1 : Nat) : Int) - 1 = (i : Int) := by omega
    rw [e8] at l8
    have hcl := hc.lt
    have hw2 : IntKind.i64.wrap ((i : Int) - 1) = (i : Int) - 1 := by rw [wrap_small] <;> omega
    have hge : (0 : Int) ≤ (i : Int) := by omega
    have hin' : i < n := by omega
    have hd0 : ¬ d = 0 := by omega
    have hq1 : k.tdiv d = k / d := Int.tdiv_eq_ediv_of_nonneg hk0
    have hq2 : k.tmod d = k % d := Int.tmod_eq_emod_of_nonneg hk0
    have hkd : 0 ≤ k / d ∧ k / d ≤ k := ⟨Int.ediv_nonneg hk0 (by omega), Int.ediv_le_self _ hk0⟩
    have hw3 : IntKind.i64.wrap (k / d) = k / d := by rw [wrap_small] <;> omega
    have hqE : ∀ h : q < st.H.length, st.H[q]'h = rowI tu := fun h => by rw [List.getElem?_eq_getElem h] at hq; exact Option.some.inj hq
    have hqH : q < st.H.length := by
      rcases Nat.lt_or_ge q st.H.length with h | h
      · exact h
      · rw [List.getElem?_eq_none h] at hq; cases hq
    have hlow : min m0 st.H.length = m0 := Nat.min_eq_left (by omega)
    have hlow2 : min m0 q = m0 := Nat.min_eq_left (by omega)
    have hstep : ∃ st1, execL tab F37L0 st = some (.normal, st1) ∧ st1.H = st.H.set q (rowI (tu.set i (k % d))) ∧ st1.low = m0 ∧ lookupE st1.vE 8 = .int .i64 ((i : Int) - 1) ∧ lookupE st1.vE 2 = .int .i64 (k / d) ∧ keepN st.vE st1.vE := by
      refine ⟨_, by simp [F37L0, callBody, zipE, execL_seq, execL_region, execL_cond, execL_skip, execL_ret, execL_exit, execL_block, execOps, wantedA, S_mv, S_pick, S_bin, S_un, S_call0, S_call1, S_extract, S_nilEq, S_load, S_alloc, Opd.ev, lookupE, lookE_setE, St.put, binA, unA, boolOf, freezeVs, freezeV, freeze1, isP, isPs, resultsA, resultA, finish, old, olds, flat, movedH_same, Nat.min_self, loadA, readCells, cellsV_int, l0, l1, l2, l7, l8, hq, hqE, hqH, S_index, S_indexR, isRow, rowI, hc.sl, hs.sl, hgc', hgd, natOf_nonneg _ c0, hd0, hq1, hq2, hw3, S_store, storeA, putElem, plainCells, plainCell, htu, hin', hit, hw2, inOrder, movedH, touches, hl1, hlow, hlow2]; rfl, ?_⟩
      refine ⟨by simp [rowI, List.map_set], by first | (simp; done) | (simp; omega), by simp [lookE_setE], by simp [lookE_setE], fun s a b c => by simp [lookE_setE, a, b, c]⟩
    obtain ⟨st1, q1, q2, q3, q5, q6, q7⟩ := hstep
    have hq' : st1.H[q]? = some (rowI (tu.set i (k % d))) := by rw [q2, List.getElem?_set_self hqH]
    obtain ⟨st', r1, r2, r3, r5⟩ := nth_loop hs hc hok hgc hn hmq i (k / d) (tu.set i (k % d)) st1 (by simp [htu]) (by omega) hkd.1 (by omega) hq' q3
      (by rw [q7 0 (by decide) (by decide) (by decide)]; exact l0) (by rw [q7 1 (by decide) (by decide) (by decide)]; exact l1) (by rw [q7 7 (by decide) (by decide) (by decide)]; exact l7) q5 q6
    refine ⟨st', by rw [execL_loop, q1]; exact r1, ?_, r3, fun s a b c => (r5 s a b c).trans (q7 s a b c)⟩
    rw [r2]
    simp only [dg, hdim, Option.getD_some]

set_option maxHeartbeats 1000000 in
theorem nth_s {sizes cols : List Int} {sv cv : V} {k : Int} (hs : VI sv sizes) (hc : VI cv cols) (hok : sizes.all okSize = true) (hgc : goodCols sizes cols = true) (hk : 0 ≤ k ∧ k ≤ 1000000) (H : Heap) :
    Ans (.fn 37 [] []) [sv, cv, .int .i64 k] H (tupV (tupleOf (dimsOf sizes cols) k)) := by
  unfold Ans
  rw [callL_fn, show tab 37 = some (.code F37) from rfl]
  have h3 := (goodCols_in hgc).1
  have hdl : (dimsOf sizes cols).length = cols.length := by simp [dimsOf]
  by_cases hz : cols = []
  · subst hz
    have hel : (el cv).length = 0 := by rw [hc.len]; rfl
    have hw : IntKind.i64.wrap (-1) = -1 := rfl
    have : ∀ st : St, lookupE st.vE 8 = .int .i64 (-1) → st.low = H.length → st.H = H → execL tab (.loop F37L0) st = some (.exit 0, { st with tE := [], vE := setE st.vE 16 (.bool false) }) := fun st h h2 h3 => by
      rw [execL_loop]
      obtain ⟨a, b, c, d, e⟩ := st
      simp only at h h2 h3
      subst h3
      subst h2
      simp [F37L0, callBody, zipE, execL_seq, execL_region, execL_cond, execL_skip, execL_ret, execL_exit, execL_block, execOps, wantedA, S_mv, S_pick, S_bin, S_un, S_call0, S_call1, S_extract, S_nilEq, S_load, S_alloc, Opd.ev, lookupE, lookE_setE, St.put, binA, unA, boolOf, freezeVs, freezeV, freeze1, isP, isPs, resultsA, resultA, finish, old, olds, flat, movedH_same, Nat.min_self, loadA, readCells, cellsV_int, h]
    simp [F37, callBody, zipE, execL_seq, execL_region, execL_cond, execL_skip, execL_ret, execL_exit, execL_block, execOps, wantedA, S_mv, S_pick, S_bin, S_un, S_call0, S_call1, S_extract, S_nilEq, S_load, S_alloc, S_box, Opd.ev, lookupE, setE, St.put, binA, unA, boolOf, freezeVs, freezeV, freeze1, isP, isPs, resultsA, resultA, finish, old, olds, flat, movedH_same, Nat.min_self, loadA, readCells, cellsV, S_len 1, hc.sl, hel, S_mkSlice, step, hw, this]
    rfl
  · have hpos : 0 < cols.length := List.length_pos_iff.2 hz
    have hnz : ¬ (cols.length : Int) = 0 := by omega
    have hnz' : ¬ cols.length = 0 := by omega
    have hcap : (cols.length : Int) * 9 ≤ 1099511627776 := by omega
    have hw : IntKind.i64.wrap ((cols.length : Int) - 1) = (cols.length : Int) - 1 := by rw [wrap_small] <;> omega
    obtain ⟨st', r1, r2, r3, r4⟩ := nth_loop (q := H.length) (m0 := H.length) hs hc hok hgc rfl (Nat.le_refl _) cols.length k (List.replicate cols.length 0)
      { tE := [], vE := [(0, sv), (1, cv), (2, .int .i64 k), (6, .nil0), (7, .sref H.length 1 0 cols.length cols.length), (8, .int .i64 ((cols.length : Int) - 1))], H := H ++ [rowI (List.replicate cols.length 0)], low := H.length } (by simp) (Nat.le_refl _) hk.1 hk.2 (by simp) rfl rfl rfl rfl rfl rfl
    have r5 : lookupE st'.vE 7 = .sref H.length 1 0 cols.length cols.length := r4 7 (by decide) (by decide) (by decide)
    have htl : (tupleOf (dimsOf sizes cols) k).length = cols.length := by unfold tupleOf; rw [dg_length]; simp [hdl]
    have e2 : dg (dimsOf sizes cols) cols.length k (List.replicate cols.length 0) = tupleOf (dimsOf sizes cols) k := by unfold tupleOf; rw [hdl]
    rw [e2] at r2
    generalize tupleOf (dimsOf sizes cols) k = l at *
    have hip := isPs_ints l
    have htk : List.take cols.length (l.map (V.int .i64)) = l.map (V.int .i64) := List.take_of_length_le (by simp [htl])
    have hrE : ∀ h : H.length < st'.H.length, st'.H[H.length]'h = rowI l := fun h => by rw [List.getElem?_eq_getElem h] at r2; exact Option.some.inj r2
    have hqH : H.length < st'.H.length := by
      rcases Nat.lt_or_ge H.length st'.H.length with h | h
      · exact h
      · rw [List.getElem?_eq_none h] at r2; cases r2
    have hmin : min H.length st'.H.length = H.length := Nat.min_eq_left (by omega)
    have hl0 : l ≠ [] := fun e => by rw [e] at htl; simp at htl; omega
    have hrow : rowI (List.replicate cols.length 0) = .row 1 (List.replicate cols.length (.int .i64 0)) false := by simp [rowI]
    rw [hrow] at r1
    simp [F37, callBody, zipE, execL_seq, execL_region, execL_cond, execL_skip, execL_ret, execL_exit, execL_block, execOps, wantedA, S_mv, S_pick, S_bin, S_un, S_call0, S_call1, S_extract, S_nilEq, S_load, S_alloc, S_box, Opd.ev, lookupE, setE, St.put, binA, unA, boolOf, freezeVs, freezeV, freeze1, isP, isPs, resultsA, resultA, finish, old, olds, flat, movedH_same, Nat.min_self, loadA, readCells, cellsV, S_len 1, hc.sl, hc.len, hnz, hnz', hz, hcap, S_mkSlice, step, zeroElem, hw, r1, r2, r3, r5, hrE, rowI, hip, htk, htl, tupV, hl0, hmin, lookE_setE]
end Go.Abs.T09
/- The reference's Tuple answers as cells.Tuple does. -/
namespace Go.Abs.T09
open Go Go.Abs

def F13LB : ACode := .seq (.region [⟨some (23, false), .mv (.var 3), none⟩, ⟨some (24, false), .mv (.var 1), none⟩, ⟨some (25, false), .mv (.var 11), none⟩, ⟨some (26, false), .indexAddr 6 (.tmp 24) (.tmp 25), none⟩, ⟨some (27, false), .fieldAddr 5 (.tmp 26), none⟩, ⟨some (28, false), .load none (.tmp 27), none⟩, ⟨some (29, false), .bin .sub (.tmp 23) (.tmp 28), none⟩, ⟨some (12, true), .mv (.tmp 29), none⟩] none) (.seq (.region [⟨some (30, false), .mv (.var 1), none⟩, ⟨some (31, false), .mv (.var 11), none⟩, ⟨some (32, false), .indexAddr 6 (.tmp 30) (.tmp 31), none⟩, ⟨some (33, false), .fieldAddr 1 (.tmp 32), none⟩, ⟨some (34, false), .load none (.tmp 33), none⟩, ⟨some (35, false), .call false (.func 35) [(.tmp 34)], none⟩, ⟨some (36, false), .mv (.var 2), none⟩, ⟨some (37, false), .nilEq 4 false (.tmp 35) (.tmp 36), none⟩, ⟨some (38, false), .mv (.tmp 37), none⟩, ⟨some (39, false), .mv (.var 3), some ((.tmp 38), true)⟩, ⟨some (40, false), .bin .geq (.tmp 39) (.const (.int .i64 0)), some ((.tmp 38), true)⟩, ⟨some (41, false), .pick (.tmp 38) (.tmp 40) (.const (.bool false)), none⟩, ⟨some (42, false), .mv (.tmp 41), none⟩, ⟨some (43, false), .mv (.var 12), some ((.tmp 42), true)⟩, ⟨some (44, false), .bin .geq (.tmp 43) (.const (.int .i64 0)), some ((.tmp 42), true)⟩, ⟨some (45, false), .pick (.tmp 42) (.tmp 44) (.const (.bool false)), none⟩, ⟨some (46, false), .mv (.tmp 45), none⟩, ⟨some (47, false), .mv (.var 12), some ((.tmp 46), true)⟩, ⟨some (48, false), .mv (.var 0), some ((.tmp 46), true)⟩, ⟨some (49, false), .mv (.var 1), some ((.tmp 46), true)⟩, ⟨some (50, false), .mv (.var 11), some ((.tmp 46), true)⟩, ⟨some (51, false), .indexAddr 6 (.tmp 49) (.tmp 50), some ((.tmp 46), true)⟩, ⟨some (52, false), .fieldAddr 2 (.tmp 51), some ((.tmp 46), true)⟩, ⟨some (53, false), .load none (.tmp 52), some ((.tmp 46), true)⟩, ⟨some (54, false), .call false (.func 36) [(.tmp 48), (.tmp 53)], some ((.tmp 46), true)⟩, ⟨some (55, false), .bin .lss (.tmp 47) (.tmp 54), some ((.tmp 46), true)⟩, ⟨some (56, true), .pick (.tmp 46) (.tmp 55) (.const (.bool false)), none⟩] none) (.cond (.var 56) (.seq (.region [⟨some (57, false), .mv (.var 11), none⟩, ⟨some (58, false), .mv (.var 0), none⟩, ⟨some (59, false), .mv (.var 1), none⟩, ⟨some (60, false), .mv (.var 11), none⟩, ⟨some (61, false), .indexAddr 6 (.tmp 59) (.tmp 60), none⟩, ⟨some (62, false), .fieldAddr 2 (.tmp 61), none⟩, ⟨some (63, false), .load none (.tmp 62), none⟩, ⟨some (64, false), .mv (.var 12), none⟩, ⟨some (65, false), .call false (.func 37) [(.tmp 58), (.tmp 63), (.tmp 64)], none⟩, ⟨some (8, true), .mv (.tmp 57), none⟩, ⟨some (9, true), .mv (.tmp 65), none⟩, ⟨some (10, true), .mv (.const (.bool true)), none⟩] none) (.ret)) (.skip)))
theorem F13L0_for : F13L0 = forBody 20 11 1 17 18 19 21 22 1 0 F13LB := rfl
def F13Pa : ACode := .region [⟨some (23, false), .mv (.var 3), none⟩, ⟨some (24, false), .mv (.var 1), none⟩, ⟨some (25, false), .mv (.var 11), none⟩, ⟨some (26, false), .indexAddr 6 (.tmp 24) (.tmp 25), none⟩, ⟨some (27, false), .fieldAddr 5 (.tmp 26), none⟩, ⟨some (28, false), .load none (.tmp 27), none⟩, ⟨some (29, false), .bin .sub (.tmp 23) (.tmp 28), none⟩, ⟨some (12, true), .mv (.tmp 29), none⟩] none
def F13Pb : ACode := .region [⟨some (30, false), .mv (.var 1), none⟩, ⟨some (31, false), .mv (.var 11), none⟩, ⟨some (32, false), .indexAddr 6 (.tmp 30) (.tmp 31), none⟩, ⟨some (33, false), .fieldAddr 1 (.tmp 32), none⟩, ⟨some (34, false), .load none (.tmp 33), none⟩, ⟨some (35, false), .call false (.func 35) [(.tmp 34)], none⟩, ⟨some (36, false), .mv (.var 2), none⟩, ⟨some (37, false), .nilEq 4 false (.tmp 35) (.tmp 36), none⟩, ⟨some (38, false), .mv (.tmp 37), none⟩, ⟨some (39, false), .mv (.var 3), some ((.tmp 38), true)⟩, ⟨some (40, false), .bin .geq (.tmp 39) (.const (.int .i64 0)), some ((.tmp 38), true)⟩, ⟨some (41, false), .pick (.tmp 38) (.tmp 40) (.const (.bool false)), none⟩, ⟨some (42, false), .mv (.tmp 41), none⟩, ⟨some (43, false), .mv (.var 12), some ((.tmp 42), true)⟩, ⟨some (44, false), .bin .geq (.tmp 43) (.const (.int .i64 0)), some ((.tmp 42), true)⟩, ⟨some (45, false), .pick (.tmp 42) (.tmp 44) (.const (.bool false)), none⟩, ⟨some (46, false), .mv (.tmp 45), none⟩, ⟨some (47, false), .mv (.var 12), some ((.tmp 46), true)⟩, ⟨some (48, false), .mv (.var 0), some ((.tmp 46), true)⟩, ⟨some (49, false), .mv (.var 1), some ((.tmp 46), true)⟩, ⟨some (50, false), .mv (.var 11), some ((.tmp 46), true)⟩, ⟨some (51, false), .indexAddr 6 (.tmp 49) (.tmp 50), some ((.tmp 46), true)⟩, ⟨some (52, false), .fieldAddr 2 (.tmp 51), some ((.tmp 46), true)⟩, ⟨some (53, false), .load none (.tmp 52), some ((.tmp 46), true)⟩, ⟨some (54, false), .call false (.func 36) [(.tmp 48), (.tmp 53)], some ((.tmp 46), true)⟩, ⟨some (55, false), .bin .lss (.tmp 47) (.tmp 54), some ((.tmp 46), true)⟩, ⟨some (56, true), .pick (.tmp 46) (.tmp 55) (.const (.bool false)), none⟩] none
def F13Pc : ACode := .cond (.var 56) (.seq (.region [⟨some (57, false), .mv (.var 11), none⟩, ⟨some (58, false), .mv (.var 0), none⟩, ⟨some (59, false), .mv (.var 1), none⟩, ⟨some (60, false), .mv (.var 11), none⟩, ⟨some (61, false), .indexAddr 6 (.tmp 59) (.tmp 60), none⟩, ⟨some (62, false), .fieldAddr 2 (.tmp 61), none⟩, ⟨some (63, false), .load none (.tmp 62), none⟩, ⟨some (64, false), .mv (.var 12), none⟩, ⟨some (65, false), .call false (.func 37) [(.tmp 58), (.tmp 63), (.tmp 64)], none⟩, ⟨some (8, true), .mv (.tmp 57), none⟩, ⟨some (9, true), .mv (.tmp 65), none⟩, ⟨some (10, true), .mv (.const (.bool true)), none⟩] none) (.ret)) (.skip)
theorem F13LB_parts : F13LB = .seq F13Pa (.seq F13Pb (F13Pc)) := rfl

/-- The table that the reference takes. -/
def hit2 (sizes : List Int) (strict : Bool) (cell : Int) (t : Tb) : Bool := decide (0 ≤ cell) && hit sizes strict cell t

set_option maxHeartbeats 2000000 in
theorem tt_b {sizes : List Int} {sv tv : V} {ts : List Tb} {strict : Bool} {cell : Int} {k : Nat} {t : Tb} {H : Heap} (hs : VI sv sizes) (ht : VT tv ts) (hV : Valid sizes ts) (hc : cell < 9223372036854775808) (hcm : -9223372036854775808 ≤ cell) (het : ts[k]? = some t) {st : St}
    (h1 : st.H = H) (h2 : st.low = H.length) (l0 : lookupE st.vE 0 = sv) (l1 : lookupE st.vE 1 = tv) (l2 : lookupE st.vE 2 = .bool strict) (l3 : lookupE st.vE 3 = .int .i64 cell) (l11 : lookupE st.vE 11 = .int .i64 k) :
    ∃ st', execL tab (.seq F13Pa F13Pb) st = some (.normal, st') ∧ st'.H = H ∧ st'.low = H.length ∧ lookupE st'.vE 0 = sv ∧ lookupE st'.vE 1 = tv ∧ lookupE st'.vE 2 = .bool strict ∧ lookupE st'.vE 3 = .int .i64 cell ∧ lookupE st'.vE 11 = .int .i64 k ∧
      lookupE st'.vE 56 = .bool (hit2 sizes strict cell t) ∧ (0 ≤ cell → lookupE st'.vE 12 = .int .i64 (cell - t.first)) := by
  have hto := ht.ok t (List.mem_of_getElem? het)
  have hg := ht.get het
  have hgc := hV.good het
  have cS := strict2_s t.kind H
  have cN := number_s hs hto.cols H
  rw [numR_wid hV.ok hgc] at cN
  unfold Ans at cS cN
  have hf := hV.end_le het
  have hsum := hV.sum_all (strictB t)
  have hwd := hV.widb het
  obtain ⟨s1, a1, a2, a3, a4, a5, a6, a7, a8, w, a9, a10⟩ : ∃ s1, execL tab F13Pa st = some (.normal, s1) ∧ s1.H = H ∧ s1.low = H.length ∧ lookupE s1.vE 0 = sv ∧ lookupE s1.vE 1 = tv ∧ lookupE s1.vE 2 = .bool strict ∧ lookupE s1.vE 3 = .int .i64 cell ∧ lookupE s1.vE 11 = .int .i64 k ∧ ∃ w, lookupE s1.vE 12 = .int .i64 w ∧ (0 ≤ cell → w = cell - t.first) := by
    refine ⟨_, by simp [F13Pa, callBody, zipE, execL_seq, execL_region, execL_cond, execL_skip, execL_ret, execL_exit, execL_block, execOps, wantedA, S_mv, S_pick, S_bin, S_un, S_call0, S_call1, S_extract, S_nilEq, S_load, S_alloc, Opd.ev, lookupE, lookE_setE, St.put, binA, unA, boolOf, freezeVs, freezeV, freeze1, isP, isPs, resultsA, resultA, finish, old, olds, flat, movedH_same, Nat.min_self, loadA, readCells, cellsV_int, h1, h2, l1, l3, l11, S_index, ht.sl, hg, S_fieldAddr, cellsV_tb, Tb.c5, Tb.e5, Tb.len]; rfl, ?_⟩
    refine ⟨by simp, by simp, by simp [lookE_setE, l0], by simp [lookE_setE, l1], by simp [lookE_setE, l2], by simp [lookE_setE, l3], by simp [lookE_setE, l11], IntKind.i64.wrap (cell - t.first), by simp [lookE_setE], fun h => ?_⟩
    rw [wrap_small] <;> omega
  rw [execL_seq, a1]
  simp only []
  have cS' : callL tab (.fn 35 [] []) [.int .i64 t.kind] H = some (.bool (strictB t), H, H.length) := cS
  have hcp := slE_isP hto.cols.sl
  have hsp := slE_isP hs.sl
  have fin : ∀ b, hit2 sizes strict cell t = b → (∃ st', execL tab F13Pb s1 = some (.normal, st') ∧ st'.H = H ∧ st'.low = H.length ∧ st'.vE = setE s1.vE 56 (.bool b)) → ∃ st', execL tab F13Pb s1 = some (.normal, st') ∧ st'.H = H ∧ st'.low = H.length ∧ lookupE st'.vE 0 = sv ∧ lookupE st'.vE 1 = tv ∧ lookupE st'.vE 2 = .bool strict ∧ lookupE st'.vE 3 = .int .i64 cell ∧ lookupE st'.vE 11 = .int .i64 k ∧ lookupE st'.vE 56 = .bool (hit2 sizes strict cell t) ∧ (0 ≤ cell → lookupE st'.vE 12 = .int .i64 (cell - t.first)) := by
    rintro b hb ⟨st', e1, e2, e3, e4⟩
    refine ⟨st', e1, e2, e3, ?_⟩
    rw [e4, hb]
    exact ⟨by simp [lookE_setE, a4], by simp [lookE_setE, a5], by simp [lookE_setE, a6], by simp [lookE_setE, a7], by simp [lookE_setE, a8], by simp [lookE_setE], fun h => by simp [lookE_setE, a9, a10 h]⟩
  by_cases hst : strictB t = strict
  · have hsb : (strictB t == strict) = true := by simp [hst]
    subst hst
    by_cases h0 : 0 ≤ cell
    · have hwe := a10 h0
      subst hwe
      by_cases h5 : t.first ≤ cell
      · by_cases h6 : cell - t.first < wid sizes t
        · exact fin true (by simp only [hit2, hit, h0, show 0 ≤ cell - t.first by omega, h6, decide_true, beq_self_eq_true, Bool.and_self]) ⟨_, by simp (maxSteps := 2000000) [F13Pb, callBody, zipE, execL_seq, execL_region, execL_cond, execL_skip, execL_ret, execL_exit, execL_block, execOps, wantedA, S_mv, S_pick, S_bin, S_un, S_call0, S_call1, S_extract, S_nilEq, S_load, S_alloc, Opd.ev, lookupE, lookE_setE, St.put, binA, unA, boolOf, freezeVs, freezeV, freeze1, isP, isPs, resultsA, resultA, finish, old, olds, flat, movedH_same, Nat.min_self, loadA, readCells, cellsV_int, a2, a3, a4, a5, a6, a7, a8, a9, S_index, ht.sl, hg, S_fieldAddr, cellsV_tb, Tb.c1, Tb.e1, Tb.c2, Tb.e2, Tb.len, cS', cN, nilEqA, h0, h5, h6, hcp, hsp]; rfl, by simp, by simp, by simp⟩
        · exact fin false (by simp [hit2, hit, h6]) ⟨_, by simp (maxSteps := 2000000) [F13Pb, callBody, zipE, execL_seq, execL_region, execL_cond, execL_skip, execL_ret, execL_exit, execL_block, execOps, wantedA, S_mv, S_pick, S_bin, S_un, S_call0, S_call1, S_extract, S_nilEq, S_load, S_alloc, Opd.ev, lookupE, lookE_setE, St.put, binA, unA, boolOf, freezeVs, freezeV, freeze1, isP, isPs, resultsA, resultA, finish, old, olds, flat, movedH_same, Nat.min_self, loadA, readCells, cellsV_int, a2, a3, a4, a5, a6, a7, a8, a9, S_index, ht.sl, hg, S_fieldAddr, cellsV_tb, Tb.c1, Tb.e1, Tb.c2, Tb.e2, Tb.len, cS', cN, nilEqA, h0, h5, h6, hcp, hsp]; rfl, by simp, by simp, by simp⟩
      · exact fin false (by simp [hit2, hit, h5]) ⟨_, by simp (maxSteps := 2000000) [F13Pb, callBody, zipE, execL_seq, execL_region, execL_cond, execL_skip, execL_ret, execL_exit, execL_block, execOps, wantedA, S_mv, S_pick, S_bin, S_un, S_call0, S_call1, S_extract, S_nilEq, S_load, S_alloc, Opd.ev, lookupE, lookE_setE, St.put, binA, unA, boolOf, freezeVs, freezeV, freeze1, isP, isPs, resultsA, resultA, finish, old, olds, flat, movedH_same, Nat.min_self, loadA, readCells, cellsV_int, a2, a3, a4, a5, a6, a7, a8, a9, S_index, ht.sl, hg, S_fieldAddr, cellsV_tb, Tb.c1, Tb.e1, Tb.c2, Tb.e2, Tb.len, cS', cN, nilEqA, h0, h5, hcp, hsp]; rfl, by simp, by simp, by simp⟩
    · exact fin false (by simp [hit2, h0]) ⟨_, by simp (maxSteps := 2000000) [F13Pb, callBody, zipE, execL_seq, execL_region, execL_cond, execL_skip, execL_ret, execL_exit, execL_block, execOps, wantedA, S_mv, S_pick, S_bin, S_un, S_call0, S_call1, S_extract, S_nilEq, S_load, S_alloc, Opd.ev, lookupE, lookE_setE, St.put, binA, unA, boolOf, freezeVs, freezeV, freeze1, isP, isPs, resultsA, resultA, finish, old, olds, flat, movedH_same, Nat.min_self, loadA, readCells, cellsV_int, a2, a3, a4, a5, a6, a7, a8, a9, S_index, ht.sl, hg, S_fieldAddr, cellsV_tb, Tb.c1, Tb.e1, Tb.c2, Tb.e2, Tb.len, cS', cN, nilEqA, h0, hcp, hsp]; rfl, by simp, by simp, by simp⟩
  · have hsb : (strictB t == strict) = false := by simp [hst]
    exact fin false (by simp [hit2, hit, hsb]) ⟨_, by simp (maxSteps := 2000000) [F13Pb, callBody, zipE, execL_seq, execL_region, execL_cond, execL_skip, execL_ret, execL_exit, execL_block, execOps, wantedA, S_mv, S_pick, S_bin, S_un, S_call0, S_call1, S_extract, S_nilEq, S_load, S_alloc, Opd.ev, lookupE, lookE_setE, St.put, binA, unA, boolOf, freezeVs, freezeV, freeze1, isP, isPs, resultsA, resultA, finish, old, olds, flat, movedH_same, Nat.min_self, loadA, readCells, cellsV_int, a2, a3, a4, a5, a6, a7, a8, a9, S_index, ht.sl, hg, S_fieldAddr, cellsV_tb, Tb.c1, Tb.e1, Tb.c2, Tb.e2, Tb.len, cS', cN, nilEqA, hsb, hcp, hsp]; rfl, by simp, by simp, by simp⟩

set_option maxHeartbeats 2000000 in
theorem tuple2_s {sizes : List Int} {sv tv : V} {ts : List Tb} {strict : Bool} {cell : Int} (hs : VI sv sizes) (ht : VT tv ts) (hnm : ∀ t ∈ ts, t.name.length ≤ 4096) (hc : cell < 9223372036854775808) (hcm : -9223372036854775808 ≤ cell) (H : Heap) :
    Ans (.fn 13 [] []) [sv, tv, .bool strict, .int .i64 cell] H (tupleR sizes ts strict cell) := by
  have hv := valid2_s hs ht hnm H
  unfold Ans at *
  rw [callL_fn, show tab 13 = some (.code F13) from rfl]
  unfold tupleR
  cases hV : validB sizes ts with
  | false =>
    rw [hV] at hv
    simp [F13, callBody, zipE, execL_seq, execL_region, execL_cond, execL_skip, execL_ret, execL_exit, execL_block, execOps, wantedA, S_mv, S_pick, S_bin, S_un, S_call0, S_call1, S_extract, S_nilEq, S_load, S_alloc, Opd.ev, lookupE, setE, St.put, binA, unA, boolOf, freezeVs, freezeV, freeze1, isP, isPs, resultsA, resultA, finish, old, olds, flat, movedH_same, Nat.min_self, loadA, readCells, cellsV_int, slE_isP hs.sl, slE_isP ht.sl, hv]
  | true =>
    rw [hV] at hv
    have hVd := valid_iff.1 hV
    have key := for_loop (tab := tab) (b := 20) (i := 11) (xs := 1) (t1 := 17) (t2 := 18) (t3 := 19) (t4 := 21) (t5 := 22) (blk := 1) (ex := 0) (es := 6) (body := F13LB)
      (I := fun k st => st.H = H ∧ st.low = H.length ∧ lookupE st.vE 0 = sv ∧ lookupE st.vE 1 = tv ∧ lookupE st.vE 2 = .bool strict ∧ lookupE st.vE 3 = .int .i64 cell ∧ lookupE st.vE 11 = .int .i64 k ∧ ∀ t ∈ ts.take k, hit2 sizes strict cell t = false)
      (Q := fun x st => st.H = H ∧ st.low = H.length ∧ ((x = .exit 0 ∧ ts.findIdx? (hit2 sizes strict cell) = none) ∨ (x = .ret ∧ ∃ k t, ts.findIdx? (hit2 sizes strict cell) = some k ∧ ts[k]? = some t ∧ lookupE st.vE 8 = .int .i64 k ∧ lookupE st.vE 9 = tupV (tupleOf (dimsOf sizes t.cl) (cell - t.first)) ∧ lookupE st.vE 10 = .bool true)))
      (N := ts.length) ht.lt (by decide) (by decide) (by decide)
      (fun k st h => ⟨h.2.2.2.2.2.2.1, by rw [h.2.2.2.1]; exact ht.sl, by rw [h.2.2.2.1]; exact ht.len, by rw [h.1, h.2.1]; exact Nat.le_refl _⟩)
      (by
        rintro k st hk ⟨q1, q2, q3, q4, q5, q6, q7, q8⟩
        obtain ⟨t, het⟩ : ∃ t, ts[k]? = some t := ⟨_, List.getElem?_eq_getElem hk⟩
        have hto := ht.ok t (List.mem_of_getElem? het)
        have hg := ht.get het
        obtain ⟨s1, a1, a2, a3, a4, a5, a6, a7, a8, a9, a10⟩ := tt_b (strict := strict) hs ht hVd hc hcm het (H := H) (st := { st with tE := [], vE := setE st.vE 20 (.bool true) }) q1 q2 (by simp [lookE_setE, q3]) (by simp [lookE_setE, q4]) (by simp [lookE_setE, q5]) (by simp [lookE_setE, q6]) (by simp [lookE_setE, q7])
        have chain : execL tab F13LB { st with tE := [], vE := setE st.vE 20 (.bool true) } = execL tab F13Pc s1 := by
          rw [execL_seq] at a1
          rw [F13LB_parts, execL_seq]
          cases e : execL tab F13Pa { st with tE := [], vE := setE st.vE 20 (.bool true) } with
          | none => rw [e] at a1; cases a1
          | some r =>
            obtain ⟨x, s⟩ := r
            rw [e] at a1
            cases x with
            | normal => simp only at a1 ⊢; rw [execL_seq, a1]
            | exit id => cases a1
            | ret => cases a1
        cases hh : hit2 sizes strict cell t with
        | false =>
          rw [hh] at a9
          refine ⟨.normal, s1, by rw [chain]; simp [F13Pc, callBody, zipE, execL_seq, execL_region, execL_cond, execL_skip, execL_ret, execL_exit, execL_block, execOps, wantedA, S_mv, S_pick, S_bin, S_un, S_call0, S_call1, S_extract, S_nilEq, S_load, S_alloc, Opd.ev, lookupE, lookE_setE, St.put, binA, unA, boolOf, freezeVs, freezeV, freeze1, isP, isPs, resultsA, resultA, finish, old, olds, flat, movedH_same, Nat.min_self, loadA, readCells, cellsV_int, a9], ?_⟩
          simp only [true_or, if_true]
          refine ⟨a8, by rw [a2, a3]; exact Nat.le_refl _, a2, a3, by simp [lookE_setE, a4], by simp [lookE_setE, a5], by simp [lookE_setE, a6], by simp [lookE_setE, a7], by simp [lookE_setE], fun u hu => ?_⟩
          rw [List.take_add_one, het] at hu
          simp at hu
          rcases hu with hu | rfl
          · exact q8 u hu
          · exact hh
        | true =>
          rw [hh] at a9
          have hh2 := hh
          simp only [hit2, hit, Bool.and_eq_true, decide_eq_true_eq] at hh
          have hgc := hVd.good het
          have hwd := hVd.widb het
          have cN := nth_s hs hto.cols hVd.ok hgc (k := cell - t.first) ⟨hh.2.1.2, by omega⟩ H
          unfold Ans at cN
          have hip := isP_tupV (tupleOf (dimsOf sizes t.cl) (cell - t.first))
          refine ⟨.ret, _, by rw [chain]; simp [F13Pc, callBody, zipE, execL_seq, execL_region, execL_cond, execL_skip, execL_ret, execL_exit, execL_block, execOps, wantedA, S_mv, S_pick, S_bin, S_un, S_call0, S_call1, S_extract, S_nilEq, S_load, S_alloc, Opd.ev, lookupE, lookE_setE, St.put, binA, unA, boolOf, freezeVs, freezeV, freeze1, isP, isPs, resultsA, resultA, finish, old, olds, flat, movedH_same, Nat.min_self, loadA, readCells, cellsV_int, a2, a3, a4, a5, a8, a9, a10 hh.1, S_index, ht.sl, hg, S_fieldAddr, cellsV_tb, Tb.c2, Tb.e2, Tb.len, slE_isP hto.cols.sl, slE_isP hs.sl, cN]; rfl, ?_⟩
          simp only [reduceCtorEq, or_self, if_false]
          refine ⟨by simp, by simp, .inr ⟨trivial, k, t, ?_, het, by simp [lookE_setE], by simp [lookE_setE], by simp [lookE_setE]⟩⟩
          rw [List.findIdx?_eq_some_iff_getElem]
          refine ⟨hk, ?_, fun j hj => ?_⟩
          · have : ts[k] = t := by rw [List.getElem?_eq_getElem hk] at het; exact Option.some.inj het
            rw [this]; exact hh2
          · have : ts[j] ∈ ts.take k := List.mem_take_iff_getElem.2 ⟨j, by omega, rfl⟩
            simp [q8 _ this])
      (by
        rintro st ⟨q1, q2, q3, q4, q5, q6, q7, q8⟩
        refine ⟨q1, q2, .inl ⟨rfl, ?_⟩⟩
        rw [List.findIdx?_eq_none_iff]
        rw [List.take_length] at q8
        exact q8)
    obtain ⟨x, st', r1, r2, r3, r4⟩ := key ts.length 0 { tE := [], vE := [(0, sv), (1, tv), (2, .bool strict), (3, .int .i64 cell), (8, .int .i64 0), (9, .nil0), (10, .bool false), (16, .bool false), (11, .int .i64 0)], H := H, low := H.length } (by omega) ⟨rfl, rfl, rfl, rfl, rfl, rfl, rfl, fun m hm => by simp at hm⟩
    rw [← F13L0_for] at r1
    by_cases h0 : cell < 0
    · have hno : ts.findIdx? (hit2 sizes strict cell) = none := by
        rw [List.findIdx?_eq_none_iff]
        intro t _
        have : ¬ 0 ≤ cell := by omega
        simp [hit2, this]
      rcases r4 with ⟨rfl, r4⟩ | ⟨rfl, k, t, r4, -⟩
      · simp [F13, callBody, zipE, execL_seq, execL_region, execL_cond, execL_skip, execL_ret, execL_exit, execL_block, execOps, wantedA, S_mv, S_pick, S_bin, S_un, S_call0, S_call1, S_extract, S_nilEq, S_load, S_alloc, Opd.ev, lookupE, setE, St.put, binA, unA, boolOf, freezeVs, freezeV, freeze1, isP, isPs, resultsA, resultA, finish, old, olds, flat, movedH_same, Nat.min_self, loadA, readCells, cellsV_int, slE_isP hs.sl, slE_isP ht.sl, hv, r1, r2, r3, h0, lookE_setE]
      · rw [hno] at r4; cases r4
    · have heq : hit2 sizes strict cell = hit sizes strict cell := by
        funext t
        have : 0 ≤ cell := by omega
        simp [hit2, this]
      rw [heq] at r4
      rcases r4 with ⟨rfl, r4⟩ | ⟨rfl, k, t, r4, r5, r6, r7, r8⟩
      · simp [F13, callBody, zipE, execL_seq, execL_region, execL_cond, execL_skip, execL_ret, execL_exit, execL_block, execOps, wantedA, S_mv, S_pick, S_bin, S_un, S_call0, S_call1, S_extract, S_nilEq, S_load, S_alloc, Opd.ev, lookupE, setE, St.put, binA, unA, boolOf, freezeVs, freezeV, freeze1, isP, isPs, resultsA, resultA, finish, old, olds, flat, movedH_same, Nat.min_self, loadA, readCells, cellsV_int, slE_isP hs.sl, slE_isP ht.sl, hv, r1, r2, r3, r4, h0, lookE_setE]
      · have hip := isP_tupV (tupleOf (dimsOf sizes t.cl) (cell - t.first))
        simp [F13, callBody, zipE, execL_seq, execL_region, execL_cond, execL_skip, execL_ret, execL_exit, execL_block, execOps, wantedA, S_mv, S_pick, S_bin, S_un, S_call0, S_call1, S_extract, S_nilEq, S_load, S_alloc, Opd.ev, lookupE, setE, St.put, binA, unA, boolOf, freezeVs, freezeV, freeze1, isP, isPs, resultsA, resultA, finish, old, olds, flat, movedH_same, Nat.min_self, loadA, readCells, cellsV_int, slE_isP hs.sl, slE_isP ht.sl, hv, r1, r2, r3, r4, r5, r6, r7, r8, h0, hip, lookE_setE]
end Go.Abs.T09
/- Sizes of sorts, by the program and by the reference; slices.EqualFunc over Ints; the reference's Count. -/
namespace Go.Abs.T09
open Go Go.Abs

/-- A sort. -/
structure So where
  name : List UInt8
  size : Int
def So.cells (s : So) : List V := [.str s.name, .int .i64 s.size]
def So.v (s : So) : V := .agg s.cells

structure VS (v : V) (ss : List So) : Prop where
  sl : slE 2 v = true
  el : el v = ss.map So.v
  lt : ss.length < 4611686018427387904

theorem VS.get {v : V} {ss : List So} (h : VS v ss) {k : Nat} {s : So} (e : ss[k]? = some s) : (Abs.el v)[k]? = some s.v := by rw [h.el]; simp [e]
theorem VS.len {v : V} {ss : List So} (h : VS v ss) : (Abs.el v).length = ss.length := by rw [h.el]; simp
theorem So.len (s : So) : s.cells.length = 2 := rfl
theorem So.t2 (s : So) : s.cells.take 2 = s.cells := rfl
theorem So.c1 (s : So) : s.cells[1]? = some (.int .i64 s.size) := rfl
theorem So.e1 (s : So) (h : 1 < s.cells.length) : s.cells[1]'h = .int .i64 s.size := rfl
theorem So.ok (s : So) : cellsOk s.cells = true := rfl
theorem cellsV_so (s : So) : cellsV s.v = s.cells := rfl

/-- A row of numbers as it grows from nothing (z). -/
def RowG (z : V) (n : Nat) (H : Heap) (v : V) (l : List Int) : Prop := (l = [] ∧ v = z) ∨ (l ≠ [] ∧ ∃ q, n ≤ q ∧ q < H.length ∧ v = .sref q 1 0 l.length l.length ∧ H[q]? = some (rowI l))

theorem RowG.app {z : V} {n : Nat} {H : Heap} {v : V} {l : List Int} (h : RowG z n H v l) (T : Heap) : RowG z n (H ++ T) v l := by
  rcases h with h | ⟨h, q, h1, h2, h3, h4⟩
  · exact .inl h
  · exact .inr ⟨h, q, h1, by simp; omega, h3, get_app h4 T⟩

set_option maxHeartbeats 1000000 in
theorem sizes22_s {v : V} {ss : List So} (hs : VS v ss) (h20 : ss.length ≤ 20) (H : Heap) : ∃ w, Ans (.fn 22 [] []) [v] H w ∧ VI w (ss.map (·.size)) := by
  have hsl := hs.sl
  have key := range_loop (tab := tab) (b := 9) (n := 7) (i := 8) (t := 17) (blk := 1) (ex := 0) (body := F22L0)
    (I := fun k st => H.length ≤ st.H.length ∧ st.low = H.length ∧ lookupE st.vE 6 = v ∧ lookupE st.vE 8 = .int .i64 k ∧ lookupE st.vE 7 = .int .i64 ss.length ∧ ∃ w, lookupE st.vE 3 = w ∧ RowG .nil0 H.length st.H w ((ss.take k).map (·.size)))
    (Q := fun x st => x = .exit 0 ∧ H.length ≤ st.H.length ∧ st.low = H.length ∧ ∃ w, lookupE st.vE 3 = w ∧ RowG .nil0 H.length st.H w (ss.map (·.size)))
    (N := ss.length) hs.lt (by decide) (by decide)
    (fun k st h => ⟨h.2.2.2.1, h.2.2.2.2.1, by rw [h.2.1]; exact h.1⟩)
    (by
      rintro k st hk ⟨q1, q2, q3, q4, q5, w, q6, q7⟩
      obtain ⟨s, het⟩ : ∃ s, ss[k]? = some s := ⟨_, List.getElem?_eq_getElem hk⟩
      have hg := hs.get het
      have n0 : min H.length st.H.length = H.length := Nat.min_eq_left q1
      have n1 : min H.length (st.H.length + 1) = H.length := Nat.min_eq_left (by omega)
      have hset : setCells [V.str [], .int .i64 0] 0 s.cells = s.cells := rfl
      have htake : (ss.take (k + 1)).map (·.size) = (ss.take k).map (·.size) ++ [s.size] := by rw [List.take_add_one, het]; simp
      have hlk : ((ss.take k).map (·.size)).length = k := by simp; omega
      rcases q7 with ⟨e, rfl⟩ | ⟨e, q, h1, h2, rfl, h4⟩
      · have : ∃ st2, execL tab F22L0 { st with tE := [], vE := setE st.vE 9 (.bool true) } = some (.normal, st2) ∧ st2.H = st.H ++ [.cells s.cells, rowI [s.size]] ∧ st2.low = H.length ∧ lookupE st2.vE 6 = v ∧ lookupE st2.vE 8 = .int .i64 k ∧ lookupE st2.vE 7 = .int .i64 ss.length ∧ lookupE st2.vE 3 = .sref (st.H.length + 1) 1 0 1 1 := by
          refine ⟨_, by simp [F22L0, callBody, zipE, execL_seq, execL_region, execL_cond, execL_skip, execL_ret, execL_exit, execL_block, execOps, wantedA, S_mv, S_pick, S_bin, S_un, S_call0, S_call1, S_extract, S_nilEq, S_load, S_alloc, Opd.ev, lookupE, lookE_setE, St.put, binA, unA, boolOf, freezeVs, freezeV, freeze1, isP, isPs, resultsA, resultA, finish, old, olds, flat, movedH_same, Nat.min_self, loadA, readCells, cellsV_int, q2, q3, q4, q6, n0, n1, S_index, hsl, hg, cellsV_so, So.v, cellsV_agg, So.len, So.t2, So.c1, So.e1, So.ok, S_store, storeA, hset, S_fieldAddr, S_lit, S_append, step, fillL, zeroElem, elems, cellsOk, cellOk, get_off0, set_off0]; rfl, ?_⟩
          exact ⟨by simp [rowI], by first | (simp; done) | (simp; omega), by simp [lookE_setE, q3], by simp [lookE_setE, q4], by simp [lookE_setE, q5], by simp [lookE_setE]⟩
        obtain ⟨st2, a1, a2, a3, a4, a5, a6, a7⟩ := this
        refine ⟨.normal, st2, a1, ?_⟩
        simp only [true_or, if_true]
        refine ⟨a5, by rw [a3, a2]; simp; omega, by show H.length ≤ st2.H.length; rw [a2]; simp; omega, a3, by simp [lookE_setE, a4], by simp [lookE_setE], by simp [lookE_setE, a6], _, by simp [lookE_setE, a7]; rfl, ?_⟩
        rw [htake, e]
        refine .inr ⟨by simp, st.H.length + 1, by omega, by show _ < st2.H.length; rw [a2]; simp, rfl, ?_⟩
        show st2.H[_]? = _
        rw [a2, get_off]; rfl
      · have h4E : ∀ h : q < st.H.length, st.H[q]'h = rowI ((ss.take k).map (·.size)) := fun h => by rw [List.getElem?_eq_getElem h] at h4; exact Option.some.inj h4
        rw [hlk] at q6
        have hcap : (k + 1) * 9 ≤ 1099511627776 := by omega
        have hkl : k ≤ ss.length := by omega
        have : ∃ st2, execL tab F22L0 { st with tE := [], vE := setE st.vE 9 (.bool true) } = some (.normal, st2) ∧ st2.H = st.H.set q (rowI ((ss.take k).map (·.size) ++ [s.size])) ++ [.cells s.cells] ∧ st2.low = H.length ∧ lookupE st2.vE 6 = v ∧ lookupE st2.vE 8 = .int .i64 k ∧ lookupE st2.vE 7 = .int .i64 ss.length ∧ lookupE st2.vE 3 = .sref q 1 0 (k + 1) (k + 1) := by
          have h5 := get_app h4 [.cells s.cells]
          unfold rowI at h5
          refine ⟨_, by simp [F22L0, callBody, zipE, execL_seq, execL_region, execL_cond, execL_skip, execL_ret, execL_exit, execL_block, execOps, wantedA, S_mv, S_pick, S_bin, S_un, S_call0, S_call1, S_extract, S_nilEq, S_load, S_alloc, Opd.ev, lookupE, lookE_setE, St.put, binA, unA, boolOf, freezeVs, freezeV, freeze1, isP, isPs, resultsA, resultA, finish, old, olds, flat, movedH_same, Nat.min_self, loadA, readCells, cellsV_int, q2, q3, q4, q6, n0, n1, S_index, hsl, hg, cellsV_so, So.v, cellsV_agg, So.len, So.t2, So.c1, So.e1, So.ok, S_store, storeA, hset, S_fieldAddr, S_lit, S_append, step, fillL, zeroElem, elems, cellsOk, cellOk, get_off0, set_off0, h5, hlk, hkl, hcap]; rfl, ?_⟩
          exact ⟨by simp [rowI, List.set_append_left, h2], by first | (simp; done) | (simp; omega), by simp [lookE_setE, q3], by simp [lookE_setE, q4], by simp [lookE_setE, q5], by simp [lookE_setE]⟩
        obtain ⟨st2, a1, a2, a3, a4, a5, a6, a7⟩ := this
        refine ⟨.normal, st2, a1, ?_⟩
        simp only [true_or, if_true]
        refine ⟨a5, by rw [a3, a2]; simp; omega, by show H.length ≤ st2.H.length; rw [a2]; simp; omega, a3, by simp [lookE_setE, a4], by simp [lookE_setE], by simp [lookE_setE, a6], _, by simp [lookE_setE, a7]; rfl, ?_⟩
        rw [htake]
        refine .inr ⟨by simp, q, h1, by show _ < st2.H.length; rw [a2]; simp; omega, by simp; omega, ?_⟩
        show st2.H[_]? = _
        rw [a2]
        exact get_app (by rw [List.getElem?_set_self h2]) _)
    (by
      rintro st ⟨q1, q2, q3, q4, q5, w, q6, q7⟩
      rw [List.take_length] at q7
      exact ⟨rfl, q1, q2, w, by simp [lookE_setE, q6], q7⟩)
  obtain ⟨x, st', r1, rfl, r2, r3, w, r4, r5⟩ := key ss.length 0 { tE := [], vE := [(0, v), (2, .nil0), (3, .nil0), (6, v), (7, .int .i64 ss.length), (8, .int .i64 0)], H := H, low := H.length } (by omega) ⟨Nat.le_refl _, rfl, rfl, rfl, rfl, .nil0, rfl, .inl ⟨rfl, rfl⟩⟩
  have hmin : min H.length st'.H.length = H.length := Nat.min_eq_left r2
  rcases r5 with ⟨e, rfl⟩ | ⟨e, q, h1, h2, rfl, h4⟩
  · refine ⟨.nil0, ?_, rfl, by rw [e]; rfl, by rw [e]; decide⟩
    unfold Ans
    rw [callL_fn, show tab 22 = some (.code F22) from rfl]
    simp [F22, callBody, zipE, execL_seq, execL_region, execL_cond, execL_skip, execL_ret, execL_exit, execL_block, execOps, wantedA, S_mv, S_pick, S_bin, S_un, S_call0, S_call1, S_extract, S_nilEq, S_load, S_alloc, S_box, Opd.ev, lookupE, setE, St.put, binA, unA, boolOf, freezeVs, freezeV, freeze1, isP, isPs, resultsA, resultA, finish, old, olds, flat, movedH_same, Nat.min_self, loadA, readCells, cellsV, S_len 2, hs.sl, hs.len, r1, r3, r4, hmin, lookE_setE]
  · refine ⟨.list 1 ((ss.map (·.size)).map (.int .i64)), ?_, rfl, rfl, by simp; omega⟩
    unfold Ans
    rw [callL_fn, show tab 22 = some (.code F22) from rfl]
    have h4E : ∀ h : q < st'.H.length, st'.H[q]'h = rowI (ss.map (·.size)) := fun h => by rw [List.getElem?_eq_getElem h] at h4; exact Option.some.inj h4
    have hip := isPs_ints (ss.map (·.size))
    have hl : (ss.map (·.size)).length = ss.length := by simp
    generalize hL : ss.map (·.size) = l at *
    have htk : List.take l.length (l.map (V.int .i64)) = l.map (V.int .i64) := List.take_of_length_le (by simp)
    unfold rowI at h4 h4E
    have hqm : min H.length q = H.length := Nat.min_eq_left h1
    simp [F22, callBody, zipE, execL_seq, execL_region, execL_cond, execL_skip, execL_ret, execL_exit, execL_block, execOps, wantedA, S_mv, S_pick, S_bin, S_un, S_call0, S_call1, S_extract, S_nilEq, S_load, S_alloc, S_box, Opd.ev, lookupE, setE, St.put, binA, unA, boolOf, freezeVs, freezeV, freeze1, isP, isPs, resultsA, resultA, finish, old, olds, flat, movedH_same, Nat.min_self, loadA, readCells, cellsV, S_len 2, hs.sl, hs.len, r1, r3, r4, h4, h4E, hip, htk, hmin, hqm, lookE_setE]

def F23LB : ACode := .region [⟨some (12, false), .mv (.var 3), none⟩, ⟨some (13, false), .mv (.var 0), none⟩, ⟨some (14, false), .mv (.var 4), none⟩, ⟨some (15, false), .indexAddr 2 (.tmp 13) (.tmp 14), none⟩, ⟨some (16, false), .fieldAddr 1 (.tmp 15), none⟩, ⟨some (17, false), .load none (.tmp 16), none⟩, ⟨some (18, false), .lit 1 [.int .i64 0] 1 [(0, (.tmp 17))] true, none⟩, ⟨some (19, false), .append 1 8 (.tmp 12) (.tmp 18), none⟩, ⟨some (3, true), .mv (.tmp 19), none⟩] none
theorem F23L0_for : F23L0 = forBody 9 4 0 6 7 8 10 11 1 0 F23LB := rfl
end Go.Abs.T09
/- CellsNumbers answers true. -/
namespace Go.Abs.T09
open Go Go.Abs

theorem tupleR_shape (sizes : List Int) (ts : List Tb) (b : Bool) (c : Int) : ∃ (i : Int) (v : V) (l : List Int) (ok : Bool), tupleR sizes ts b c = .tup [.int .i64 i, v, .bool ok] ∧ VI v l := by
  have hnil : VI .nil0 [] := ⟨rfl, rfl, by decide⟩
  unfold tupleR
  split
  · exact ⟨0, .nil0, [], false, rfl, hnil⟩
  · rename_i hV
    split
    · exact ⟨0, .nil0, [], false, rfl, hnil⟩
    · rename_i i hi
      split
      · rename_i t ht
        refine ⟨i, _, tupleOf (dimsOf sizes t.cl) (c - t.first), true, rfl, tupV_VI ?_⟩
        have hV2 : validB sizes ts = true := by
          cases h : validB sizes ts with
          | true => rfl
          | false => simp [h] at hV
        have := (goodCols_in ((valid_iff.1 hV2).good ht)).1
        unfold tupleOf
        rw [dg_length]
        simp [dimsOf]
        omega
      · rename_i ht
        obtain ⟨h1, -, -⟩ := List.findIdx?_eq_some_iff_getElem.1 hi
        rw [List.getElem?_eq_getElem h1] at ht
        cases ht

theorem cellsV_bl (b : Bool) : cellsV (.bool b) = [.bool b] := rfl

set_option maxHeartbeats 2000000 in
theorem nb_round {sv tv uv : V} {sizes : List Int} {ts : List Tb} {cell : Int} {b : Bool} {k : Nat} {st : St} (hs : VI sv sizes) (ht : VT tv ts) (hnm : ∀ t ∈ ts, t.name.length ≤ 4096) (hc : cell < 9223372036854775808) (hcm : -9223372036854775808 ≤ cell)
    (h1 : st.H = []) (h2 : st.low = 0) (hk : ([V.bool true, .bool false] : List V)[k]? = some (.bool b)) (l0 : lookupE st.vE 0 = sv) (l1 : lookupE st.vE 1 = tv) (l4 : lookupE st.vE 4 = .int .i64 cell) (l58 : lookupE st.vE 58 = .list 1 [.bool true, .bool false]) (l60 : lookupE st.vE 60 = .int .i64 k) (l59 : lookupE st.vE 59 = .int .i64 (2 : Nat)) :
    ∃ st', execL tab F3L0 st = some (.normal, st') ∧ st'.H = [] ∧ st'.low = 0 ∧ lookupE st'.vE 0 = sv ∧ lookupE st'.vE 1 = tv ∧ lookupE st'.vE 4 = .int .i64 cell ∧ lookupE st'.vE 58 = .list 1 [.bool true, .bool false] ∧ lookupE st'.vE 60 = .int .i64 k ∧ lookupE st'.vE 59 = .int .i64 (2 : Nat) := by
  have hsp := slE_isP hs.sl
  have htp := slE_isP ht.sl
  obtain ⟨i, v, l, ok, hR, hvl⟩ := tupleR_shape sizes ts b cell
  have c1 := tuple_s (strict := b) hs ht hc []
  have c2 := tuple2_s (strict := b) hs ht hnm hc hcm []
  have c3 := ints_s hvl hvl []
  rw [hR] at c1 c2
  unfold Ans at c1 c2 c3
  simp only [List.length_nil, beq_self_eq_true] at c1 c2 c3
  have hvp := slE_isP hvl.sl
  have hne : ((i : Int) != i) = false := by simp
  refine ⟨_, by simp [F3L0, callBody, zipE, execL_seq, execL_region, execL_cond, execL_skip, execL_ret, execL_exit, execL_block, execOps, wantedA, S_mv, S_pick, S_bin, S_un, S_call0, S_call1, S_extract, S_nilEq, S_load, S_alloc, Opd.ev, lookupE, lookE_setE, St.put, binA, unA, boolOf, freezeVs, freezeV, freeze1, isP, isPs, resultsA, resultA, finish, old, olds, flat, movedH_same, Nat.min_self, loadA, readCells, cellsV_int, cellsV_bl, movedH, h1, h2, l0, l1, l4, l58, l60, S_index, slE, el, hk, c1, c2, c3, hsp, htp, hvp, hne, nilEqA]; rfl, ?_⟩
  exact ⟨by simp, by simp, by simp [lookE_setE, l0], by simp [lookE_setE, l1], by simp [lookE_setE, l4], by simp [lookE_setE, l58], by simp [lookE_setE, l60], by simp [lookE_setE, l59]⟩

set_option maxHeartbeats 2000000 in
theorem cellsNumbers_s {sv tv uv : V} {sizes tu : List Int} {ts : List Tb} {table cell : Int} (hs : VI sv sizes) (ht : VT tv ts) (hu : VI uv tu) (hc : cell < 9223372036854775808) (hcm : -9223372036854775808 ≤ cell) :
    callL tab (.fn 3 [] []) [sv, tv, .int .i64 table, uv, .int .i64 cell] [] = some (.bool true, [], 0) := by
  have haw := awake_s
  have hf := few_s hs ht []
  unfold Ans at hf
  simp only [List.length_nil] at hf
  have hsp := slE_isP hs.sl
  have htp := slE_isP ht.sl
  have hup := slE_isP hu.sl
  rw [callL_fn, show tab 3 = some (.code F3) from rfl]
  cases hF : fewB sizes ts with
  | false =>
    rw [hF] at hf
    simp [F3, callBody, zipE, execL_seq, execL_region, execL_cond, execL_skip, execL_ret, execL_exit, execL_block, execOps, wantedA, S_mv, S_pick, S_bin, S_un, S_call0, S_call1, S_extract, S_nilEq, S_load, S_alloc, Opd.ev, lookupE, setE, St.put, binA, unA, boolOf, freezeVs, freezeV, freeze1, isP, isPs, resultsA, resultA, finish, old, olds, flat, movedH_same, Nat.min_self, loadA, readCells, cellsV_int, haw, hf, hsp, htp]
  | true =>
    rw [hF] at hf
    by_cases h20 : (20 : Int) < (tu.length : Int)
    · simp [F3, callBody, zipE, execL_seq, execL_region, execL_cond, execL_skip, execL_ret, execL_exit, execL_block, execOps, wantedA, S_mv, S_pick, S_bin, S_un, S_call0, S_call1, S_extract, S_nilEq, S_load, S_alloc, Opd.ev, lookupE, setE, St.put, binA, unA, boolOf, freezeVs, freezeV, freeze1, isP, isPs, resultsA, resultA, finish, old, olds, flat, movedH_same, Nat.min_self, loadA, readCells, cellsV_int, haw, hf, hsp, htp, S_len 1, hu.sl, hu.len, h20]
    · have hnm : ∀ t ∈ ts, t.name.length ≤ 4096 := fun t htm => by
        unfold fewB at hF
        simp only [Bool.and_eq_true, List.all_eq_true] at hF
        have := hF.1 t htm
        simp only [fewT, Bool.and_eq_true, decide_eq_true_eq] at this
        omega
      have c1 := cell_s (table := table) hs ht hu []
      have c2 := cell2_s (table := table) hs ht hnm hu []
      unfold Ans at c1 c2
      simp only [List.length_nil] at c1 c2
      generalize cellR sizes ts table tu = r at *
      obtain ⟨r1, r2⟩ := r
      simp only at c1 c2
      have e1 : (r1 != r1) = false := by simp
      have e2 : (r2 != r2) = false := by simp
      have key := range_loop (tab := tab) (b := 61) (n := 59) (i := 60) (t := 96) (blk := 1) (ex := 0) (body := F3L0)
        (I := fun k s => s.H = [] ∧ s.low = 0 ∧ lookupE s.vE 0 = sv ∧ lookupE s.vE 1 = tv ∧ lookupE s.vE 4 = .int .i64 cell ∧ lookupE s.vE 58 = .list 1 [.bool true, .bool false] ∧ lookupE s.vE 60 = .int .i64 k ∧ lookupE s.vE 59 = .int .i64 (2 : Nat))
        (Q := fun x s => x = .exit 0 ∧ s.H = [] ∧ s.low = 0)
        (N := 2) (by decide) (by decide) (by decide)
        (fun k s h => ⟨h.2.2.2.2.2.2.1, h.2.2.2.2.2.2.2, by rw [h.1, h.2.1]; exact Nat.le_refl _⟩)
        (by
          rintro k s hk ⟨q1, q2, q3, q4, q5, q6, q7, q8⟩
          obtain ⟨b, hkb⟩ : ∃ b, ([V.bool true, .bool false] : List V)[k]? = some (.bool b) := by
            rcases (show k = 0 ∨ k = 1 by omega) with rfl | rfl
            · exact ⟨true, rfl⟩
            · exact ⟨false, rfl⟩
          obtain ⟨s1, a1, a2, a3, a4, a5, a6, a7, a8, a9⟩ := nb_round (uv := uv) (st := { s with tE := [], vE := setE s.vE 61 (.bool true) }) hs ht hnm hc hcm q1 q2 hkb (by simp [lookE_setE, q3]) (by simp [lookE_setE, q4]) (by simp [lookE_setE, q5]) (by simp [lookE_setE, q6]) (by simp [lookE_setE, q7]) (by simp [lookE_setE, q8])
          refine ⟨.normal, s1, a1, ?_⟩
          simp only [true_or, if_true]
          exact ⟨a8, by rw [a2, a3]; exact Nat.le_refl _, a2, a3, by simp [lookE_setE, a4], by simp [lookE_setE, a5], by simp [lookE_setE, a6], by simp [lookE_setE, a7], by simp [lookE_setE], by simp [lookE_setE, a9]⟩)
        (by rintro s ⟨q1, q2, -⟩; exact ⟨rfl, q1, q2⟩)
      obtain ⟨x, st', k1, rfl, k2, k3⟩ := key 2 0 { tE := [], vE := [(0, sv), (1, tv), (2, .int .i64 table), (3, uv), (4, .int .i64 cell), (10, .bool false), (24, .bool false), (33, .bool false), (11, .int .i64 r1), (12, .int .i64 r2), (13, .int .i64 r1), (14, .int .i64 r2), (57, .bool false), (58, .list 1 [.bool true, .bool false]), (59, .int .i64 2), (60, .int .i64 0)], H := [], low := 0 } (by omega) ⟨rfl, rfl, rfl, rfl, rfl, rfl, rfl, rfl⟩
      have hsl2 : slE 1 (V.list 1 [V.bool true, V.bool false]) = true := rfl
      have hel2 : el (V.list 1 [V.bool true, V.bool false]) = [V.bool true, V.bool false] := rfl
      simp [F3, callBody, zipE, execL_seq, execL_region, execL_cond, execL_skip, execL_ret, execL_exit, execL_block, execOps, wantedA, S_mv, S_pick, S_bin, S_un, S_call0, S_call1, S_extract, S_nilEq, S_load, S_alloc, Opd.ev, lookupE, setE, St.put, binA, unA, boolOf, freezeVs, freezeV, freeze1, isP, isPs, resultsA, resultA, finish, old, olds, flat, movedH_same, Nat.min_self, loadA, readCells, cellsV_int, haw, hf, hsp, htp, hup, S_len 1, hu.sl, hu.len, h20, c1, c2, e1, e2, S_lit, step, fillL, zeroElem, cellsOk, cellOk, cellsV_bl, hsl2, hel2, k1, k2, k3, lookE_setE]
end Go.Abs.T09
/- CellsLayouts answers true. -/
namespace Go.Abs.T09
open Go Go.Abs

set_option maxHeartbeats 1000000 in
theorem sizes23_s {v : V} {ss : List So} (hs : VS v ss) (h20 : ss.length ≤ 20) (H : Heap) : ∃ w, Ans (.fn 23 [] []) [v] H w ∧ VI w (ss.map (·.size)) := by
  have hsl := hs.sl
  have key := for_loop (tab := tab) (b := 9) (i := 4) (xs := 0) (t1 := 6) (t2 := 7) (t3 := 8) (t4 := 10) (t5 := 11) (blk := 1) (ex := 0) (es := 2) (body := F23LB)
    (I := fun k st => H.length ≤ st.H.length ∧ st.low = H.length ∧ lookupE st.vE 0 = v ∧ lookupE st.vE 4 = .int .i64 k ∧ ∃ w, lookupE st.vE 3 = w ∧ RowG .emp H.length st.H w ((ss.take k).map (·.size)))
    (Q := fun x st => x = .exit 0 ∧ H.length ≤ st.H.length ∧ st.low = H.length ∧ ∃ w, lookupE st.vE 3 = w ∧ RowG .emp H.length st.H w (ss.map (·.size)))
    (N := ss.length) hs.lt (by decide) (by decide) (by decide)
    (fun k st h => ⟨h.2.2.2.1, by rw [h.2.2.1]; exact hsl, by rw [h.2.2.1]; exact hs.len, by rw [h.2.1]; exact h.1⟩)
    (by
      rintro k st hk ⟨q1, q2, q3, q4, w, q6, q7⟩
      obtain ⟨s, het⟩ : ∃ s, ss[k]? = some s := ⟨_, List.getElem?_eq_getElem hk⟩
      have hg := hs.get het
      have n0 : min H.length st.H.length = H.length := Nat.min_eq_left q1
      have htake : (ss.take (k + 1)).map (·.size) = (ss.take k).map (·.size) ++ [s.size] := by rw [List.take_add_one, het]; simp
      have hlk : ((ss.take k).map (·.size)).length = k := by simp; omega
      rcases q7 with ⟨e, rfl⟩ | ⟨e, q, h1, h2, rfl, h4⟩
      · have : ∃ st2, execL tab F23LB { st with tE := [], vE := setE st.vE 9 (.bool true) } = some (.normal, st2) ∧ st2.H = st.H ++ [rowI [s.size]] ∧ st2.low = H.length ∧ lookupE st2.vE 0 = v ∧ lookupE st2.vE 4 = .int .i64 k ∧ lookupE st2.vE 3 = .sref st.H.length 1 0 1 1 := by
          refine ⟨_, by simp [F23LB, callBody, zipE, execL_seq, execL_region, execL_cond, execL_skip, execL_ret, execL_exit, execL_block, execOps, wantedA, S_mv, S_pick, S_bin, S_un, S_call0, S_call1, S_extract, S_nilEq, S_load, S_alloc, Opd.ev, lookupE, lookE_setE, St.put, binA, unA, boolOf, freezeVs, freezeV, freeze1, isP, isPs, resultsA, resultA, finish, old, olds, flat, movedH_same, Nat.min_self, loadA, readCells, cellsV_int, q2, q3, q4, q6, n0, S_index, hsl, hg, cellsV_so, So.v, cellsV_agg, So.len, So.c1, So.e1, S_fieldAddr, S_lit, S_append, step, fillL, zeroElem, elems, cellsOk, cellOk]; rfl, ?_⟩
          exact ⟨by simp [rowI], by first | (simp; done) | (simp; omega), by simp [lookE_setE, q3], by simp [lookE_setE, q4], by simp [lookE_setE]⟩
        obtain ⟨st2, a1, a2, a3, a4, a5, a7⟩ := this
        refine ⟨.normal, st2, a1, ?_⟩
        simp only [true_or, if_true]
        refine ⟨a5, by rw [a3, a2]; simp; omega, by show H.length ≤ st2.H.length; rw [a2]; simp; omega, a3, by simp [lookE_setE, a4], by simp [lookE_setE], _, by simp [lookE_setE, a7]; rfl, ?_⟩
        rw [htake, e]
        refine .inr ⟨by simp, st.H.length, by omega, by show _ < st2.H.length; rw [a2]; simp, rfl, ?_⟩
        show st2.H[_]? = _
        rw [a2, get_off0]; rfl
      · have h4E : ∀ h : q < st.H.length, st.H[q]'h = rowI ((ss.take k).map (·.size)) := fun h => by rw [List.getElem?_eq_getElem h] at h4; exact Option.some.inj h4
        rw [hlk] at q6
        have hcap : (k + 1) * 9 ≤ 1099511627776 := by omega
        have hkl : k ≤ ss.length := by omega
        have : ∃ st2, execL tab F23LB { st with tE := [], vE := setE st.vE 9 (.bool true) } = some (.normal, st2) ∧ st2.H = st.H.set q (rowI ((ss.take k).map (·.size) ++ [s.size])) ∧ st2.low = H.length ∧ lookupE st2.vE 0 = v ∧ lookupE st2.vE 4 = .int .i64 k ∧ lookupE st2.vE 3 = .sref q 1 0 (k + 1) (k + 1) := by
          unfold rowI at h4 h4E
          refine ⟨_, by simp [F23LB, callBody, zipE, execL_seq, execL_region, execL_cond, execL_skip, execL_ret, execL_exit, execL_block, execOps, wantedA, S_mv, S_pick, S_bin, S_un, S_call0, S_call1, S_extract, S_nilEq, S_load, S_alloc, Opd.ev, lookupE, lookE_setE, St.put, binA, unA, boolOf, freezeVs, freezeV, freeze1, isP, isPs, resultsA, resultA, finish, old, olds, flat, movedH_same, Nat.min_self, loadA, readCells, cellsV_int, q2, q3, q4, q6, n0, S_index, hsl, hg, cellsV_so, So.v, cellsV_agg, So.len, So.c1, So.e1, S_fieldAddr, S_lit, S_append, step, fillL, zeroElem, elems, cellsOk, cellOk, h4, h4E, hlk, hkl, hcap]; rfl, ?_⟩
          exact ⟨by simp [rowI], by first | (simp; done) | (simp; omega), by simp [lookE_setE, q3], by simp [lookE_setE, q4], by simp [lookE_setE]⟩
        obtain ⟨st2, a1, a2, a3, a4, a5, a7⟩ := this
        refine ⟨.normal, st2, a1, ?_⟩
        simp only [true_or, if_true]
        refine ⟨a5, by rw [a3, a2]; simp; omega, by show H.length ≤ st2.H.length; rw [a2]; simp; omega, a3, by simp [lookE_setE, a4], by simp [lookE_setE], _, by simp [lookE_setE, a7]; rfl, ?_⟩
        rw [htake]
        refine .inr ⟨by simp, q, h1, by show _ < st2.H.length; rw [a2]; simp; omega, by simp; omega, ?_⟩
        show st2.H[_]? = _
        rw [a2, List.getElem?_set_self h2])
    (by
      rintro st ⟨q1, q2, q3, q4, w, q6, q7⟩
      rw [List.take_length] at q7
      exact ⟨rfl, q1, q2, w, by simp [lookE_setE, q6], q7⟩)
  obtain ⟨x, st', r1, rfl, r2, r3, w, r4, r5⟩ := key ss.length 0 { tE := [], vE := [(0, v), (2, .nil0), (3, .emp), (4, .int .i64 0)], H := H, low := H.length } (by omega) ⟨Nat.le_refl _, rfl, rfl, rfl, .emp, rfl, .inl ⟨rfl, rfl⟩⟩
  rw [← F23L0_for] at r1
  have hmin : min H.length st'.H.length = H.length := Nat.min_eq_left r2
  rcases r5 with ⟨e, rfl⟩ | ⟨e, q, h1, h2, rfl, h4⟩
  · refine ⟨.emp, ?_, rfl, by rw [e]; rfl, by rw [e]; decide⟩
    unfold Ans
    rw [callL_fn, show tab 23 = some (.code F23) from rfl]
    simp [F23, callBody, zipE, execL_seq, execL_region, execL_cond, execL_skip, execL_ret, execL_exit, execL_block, execOps, wantedA, S_mv, S_pick, S_bin, S_un, S_call0, S_call1, S_extract, S_nilEq, S_load, S_alloc, S_box, Opd.ev, lookupE, setE, St.put, binA, unA, boolOf, freezeVs, freezeV, freeze1, isP, isPs, resultsA, resultA, finish, old, olds, flat, movedH_same, Nat.min_self, loadA, readCells, cellsV, S_lit, step, fillL, r1, r3, r4, hmin, lookE_setE]
  · refine ⟨.list 1 ((ss.map (·.size)).map (.int .i64)), ?_, rfl, rfl, by simp; omega⟩
    unfold Ans
    rw [callL_fn, show tab 23 = some (.code F23) from rfl]
    have h4E : ∀ h : q < st'.H.length, st'.H[q]'h = rowI (ss.map (·.size)) := fun h => by rw [List.getElem?_eq_getElem h] at h4; exact Option.some.inj h4
    have hip := isPs_ints (ss.map (·.size))
    have hl : (ss.map (·.size)).length = ss.length := by simp
    generalize hL : ss.map (·.size) = l at *
    have htk : List.take l.length (l.map (V.int .i64)) = l.map (V.int .i64) := List.take_of_length_le (by simp)
    unfold rowI at h4 h4E
    have hqm : min H.length q = H.length := Nat.min_eq_left h1
    simp [F23, callBody, zipE, execL_seq, execL_region, execL_cond, execL_skip, execL_ret, execL_exit, execL_block, execOps, wantedA, S_mv, S_pick, S_bin, S_un, S_call0, S_call1, S_extract, S_nilEq, S_load, S_alloc, S_box, Opd.ev, lookupE, setE, St.put, binA, unA, boolOf, freezeVs, freezeV, freeze1, isP, isPs, resultsA, resultA, finish, old, olds, flat, movedH_same, Nat.min_self, loadA, readCells, cellsV, S_lit, step, fillL, r1, r3, r4, h4, h4E, hip, htk, hmin, hqm, lookE_setE]

/-! ### slices.EqualFunc over Ints -/
set_option maxHeartbeats 1000000 in
theorem equalFunc_s {a b : V} (ha : slE 1 a = true) (hb : slE 1 b = true) (hlen : (el a).length = (el b).length) (hlt : (el a).length < 4611686018427387904)
    (hpt : ∀ k, k < (el a).length → ∃ x y l, (el a)[k]? = some x ∧ (el b)[k]? = some y ∧ cellsV x = [x] ∧ cellsV y = [y] ∧ VI x l ∧ VI y l) (H : Heap) :
    Ans (.fn 25 [] []) [a, b, .fn 14 [] []] H (.bool true) := by
  unfold Ans
  have hne : (((el a).length : Int) != ((el b).length : Int)) = false := by simp [hlen]
  have key := range_loop (tab := tab) (b := 18) (n := 16) (i := 17) (t := 31) (blk := 1) (ex := 0) (body := F25L0)
    (I := fun k st => st.H = H ∧ st.low = H.length ∧ lookupE st.vE 15 = a ∧ lookupE st.vE 1 = b ∧ lookupE st.vE 2 = .fn 14 [] [] ∧ lookupE st.vE 17 = .int .i64 k ∧ lookupE st.vE 16 = .int .i64 (el a).length)
    (Q := fun x st => x = .exit 0 ∧ st.H = H ∧ st.low = H.length)
    (N := (el a).length) hlt (by decide) (by decide)
    (fun k st h => ⟨h.2.2.2.2.2.1, h.2.2.2.2.2.2, by rw [h.1, h.2.1]; exact Nat.le_refl _⟩)
    (by
      rintro k st hk ⟨q1, q2, q3, q4, q5, q6, q7⟩
      obtain ⟨x, y, l, hx, hy, cx, cy, vx, vy⟩ := hpt k hk
      have c := ints_s vx vy H
      rw [beq_self_eq_true] at c
      unfold Ans at c
      refine ⟨.normal, _, by simp [F25L0, callBody, zipE, execL_seq, execL_region, execL_cond, execL_skip, execL_ret, execL_exit, execL_block, execOps, wantedA, S_mv, S_pick, S_bin, S_un, S_call0, S_call1, S_extract, S_nilEq, S_load, S_alloc, Opd.ev, lookupE, lookE_setE, St.put, binA, unA, boolOf, freezeVs, freezeV, freeze1, isP, isPs, resultsA, resultA, finish, old, olds, flat, movedH_same, Nat.min_self, loadA, readCells, cellsV_int, q1, q2, q3, q4, q5, q6, S_index, ha, hb, hx, hy, cx, cy, slE_isP vx.sl, slE_isP vy.sl, c]; rfl, ?_⟩
      simp only [true_or, if_true]
      exact ⟨by simp [lookE_setE, q6], by simp, by simp, by simp, by simp [lookE_setE, q3], by simp [lookE_setE, q4], by simp [lookE_setE, q5], by simp [lookE_setE], by simp [lookE_setE, q7]⟩)
    (by rintro st ⟨q1, q2, -⟩; exact ⟨rfl, q1, q2⟩)
  obtain ⟨x, st', r1, rfl, r2, r3⟩ := key (el a).length 0 { tE := [], vE := [(0, a), (1, b), (2, .fn 14 [] []), (6, .bool false), (14, .bool false), (15, a), (16, .int .i64 (el a).length), (17, .int .i64 0)], H := H, low := H.length } (by omega) ⟨rfl, rfl, rfl, rfl, rfl, rfl, rfl⟩
  rw [callL_fn, show tab 25 = some (.code F25) from rfl]
  rw [hlen] at r1
  simp [F25, callBody, zipE, execL_seq, execL_region, execL_cond, execL_skip, execL_ret, execL_exit, execL_block, execOps, wantedA, S_mv, S_pick, S_bin, S_un, S_call0, S_call1, S_extract, S_nilEq, S_load, S_alloc, S_box, Opd.ev, lookupE, setE, St.put, binA, unA, boolOf, freezeVs, freezeV, freeze1, isP, isPs, resultsA, resultA, finish, old, olds, flat, movedH_same, Nat.min_self, loadA, readCells, cellsV, S_len 1, ha, hb, hne, hlen, r1, r2, r3, lookE_setE]

/-! ### Count -/
def F27LB : ACode := .seq (.region [⟨some (19, false), .mv (.var 1), none⟩, ⟨some (20, false), .mv (.var 8), none⟩, ⟨some (21, false), .indexAddr 6 (.tmp 19) (.tmp 20), none⟩, ⟨some (22, false), .fieldAddr 1 (.tmp 21), none⟩, ⟨some (23, false), .load none (.tmp 22), none⟩, ⟨some (24, false), .call false (.func 35) [(.tmp 23)], none⟩, ⟨some (25, false), .mv (.var 2), none⟩, ⟨some (26, true), .nilEq 4 false (.tmp 24) (.tmp 25), none⟩] none) (.cond (.var 26) (.region [⟨some (27, false), .mv (.var 7), none⟩, ⟨some (28, false), .mv (.var 0), none⟩, ⟨some (29, false), .mv (.var 1), none⟩, ⟨some (30, false), .mv (.var 8), none⟩, ⟨some (31, false), .indexAddr 6 (.tmp 29) (.tmp 30), none⟩, ⟨some (32, false), .fieldAddr 2 (.tmp 31), none⟩, ⟨some (33, false), .load none (.tmp 32), none⟩, ⟨some (34, false), .call false (.func 36) [(.tmp 28), (.tmp 33)], none⟩, ⟨some (35, false), .bin .add (.tmp 27) (.tmp 34), none⟩, ⟨some (7, true), .mv (.tmp 35), none⟩] none) (.skip))
theorem F27L0_for : F27L0 = forBody 16 8 1 13 14 15 17 18 1 0 F27LB := rfl

set_option maxHeartbeats 1000000 in
theorem count2_s {sizes : List Int} {sv tv : V} {ts : List Tb} {strict : Bool} (hs : VI sv sizes) (ht : VT tv ts) (hnm : ∀ t ∈ ts, t.name.length ≤ 4096) (H : Heap) : Ans (.fn 27 [] []) [sv, tv, .bool strict] H (.int .i64 (countR strict sizes ts)) := by
  have hv := valid2_s hs ht hnm H
  unfold Ans at *
  rw [callL_fn, show tab 27 = some (.code F27) from rfl]
  unfold countR
  cases hV : validB sizes ts with
  | false =>
    rw [hV] at hv
    simp [F27, callBody, zipE, execL_seq, execL_region, execL_cond, execL_skip, execL_ret, execL_exit, execL_block, execOps, wantedA, S_mv, S_pick, S_bin, S_un, S_call0, S_call1, S_extract, S_nilEq, S_load, S_alloc, Opd.ev, lookupE, setE, St.put, binA, unA, boolOf, freezeVs, freezeV, freeze1, isP, isPs, resultsA, resultA, finish, old, olds, flat, movedH_same, Nat.min_self, loadA, readCells, cellsV_int, slE_isP hs.sl, slE_isP ht.sl, hv]
  | true =>
    rw [hV] at hv
    have hVd := valid_iff.1 hV
    have key := for_loop (tab := tab) (b := 16) (i := 8) (xs := 1) (t1 := 13) (t2 := 14) (t3 := 15) (t4 := 17) (t5 := 18) (blk := 1) (ex := 0) (es := 6) (body := F27LB)
      (I := fun k st => st.H = H ∧ st.low = H.length ∧ lookupE st.vE 0 = sv ∧ lookupE st.vE 1 = tv ∧ lookupE st.vE 2 = .bool strict ∧ lookupE st.vE 7 = .int .i64 (sumB strict sizes (ts.take k)) ∧ lookupE st.vE 8 = .int .i64 k)
      (Q := fun x st => x = .exit 0 ∧ st.H = H ∧ st.low = H.length ∧ lookupE st.vE 7 = .int .i64 (sumB strict sizes ts))
      (N := ts.length) ht.lt (by decide) (by decide) (by decide)
      (fun k st h => ⟨h.2.2.2.2.2.2, by rw [h.2.2.2.1]; exact ht.sl, by rw [h.2.2.2.1]; exact ht.len, by rw [h.1, h.2.1]; exact Nat.le_refl _⟩)
      (by
        rintro k st hk ⟨q1, q2, q3, q4, q5, q6, q7⟩
        obtain ⟨t, het⟩ : ∃ t, ts[k]? = some t := ⟨_, List.getElem?_eq_getElem hk⟩
        have hto := ht.ok t (List.mem_of_getElem? het)
        have hg := ht.get het
        have hgc := hVd.good het
        have cS : callL tab (.fn 35 [] []) [.int .i64 t.kind] H = some (.bool (strictB t), H, H.length) := strict2_s t.kind H
        have cN := number_s hs hto.cols H
        rw [numR_wid hVd.ok hgc] at cN
        unfold Ans at cN
        have hb1 := hVd.sum_le strict k
        have hb2 := hVd.sum_all strict
        have hwd := hVd.widb het
        have hw : IntKind.i64.wrap (sumB strict sizes (ts.take k) + wid sizes t) = sumB strict sizes (ts.take k) + wid sizes t := by rw [wrap_small] <;> omega
        cases hst : (strictB t == strict) with
        | true =>
          have hsum : sumB strict sizes (ts.take (k + 1)) = sumB strict sizes (ts.take k) + wid sizes t := by rw [sumB_succ het, hst]; simp
          refine ⟨.normal, _, by simp [F27LB, callBody, zipE, execL_seq, execL_region, execL_cond, execL_skip, execL_ret, execL_exit, execL_block, execOps, wantedA, S_mv, S_pick, S_bin, S_un, S_call0, S_call1, S_extract, S_nilEq, S_load, S_alloc, Opd.ev, lookupE, lookE_setE, St.put, binA, unA, boolOf, freezeVs, freezeV, freeze1, isP, isPs, resultsA, resultA, finish, old, olds, flat, movedH_same, Nat.min_self, loadA, readCells, cellsV_int, q1, q2, q3, q4, q5, q6, q7, S_index, ht.sl, hg, S_fieldAddr, cellsV_tb, Tb.c1, Tb.e1, Tb.c2, Tb.e2, Tb.len, cS, cN, nilEqA, hst, slE_isP hs.sl, slE_isP hto.cols.sl, hw]; rfl, ?_⟩
          simp only [true_or, if_true]
          exact ⟨by simp [lookE_setE, q7], by simp, by simp, by simp, by simp [lookE_setE, q3], by simp [lookE_setE, q4], by simp [lookE_setE, q5], by simp [lookE_setE, hsum], by simp [lookE_setE]⟩
        | false =>
          have hsum : sumB strict sizes (ts.take (k + 1)) = sumB strict sizes (ts.take k) := by rw [sumB_succ het, hst]; simp
          refine ⟨.normal, _, by simp [F27LB, callBody, zipE, execL_seq, execL_region, execL_cond, execL_skip, execL_ret, execL_exit, execL_block, execOps, wantedA, S_mv, S_pick, S_bin, S_un, S_call0, S_call1, S_extract, S_nilEq, S_load, S_alloc, Opd.ev, lookupE, lookE_setE, St.put, binA, unA, boolOf, freezeVs, freezeV, freeze1, isP, isPs, resultsA, resultA, finish, old, olds, flat, movedH_same, Nat.min_self, loadA, readCells, cellsV_int, q1, q2, q3, q4, q5, q6, q7, S_index, ht.sl, hg, S_fieldAddr, cellsV_tb, Tb.c1, Tb.e1, Tb.len, cS, nilEqA, hst]; rfl, ?_⟩
          simp only [true_or, if_true]
          exact ⟨by simp [lookE_setE, q7], by simp, by simp, by simp, by simp [lookE_setE, q3], by simp [lookE_setE, q4], by simp [lookE_setE, q5], by simp [lookE_setE, hsum, q6], by simp [lookE_setE]⟩)
      (by
        rintro st ⟨q1, q2, q3, q4, q5, q6, q7⟩
        rw [List.take_length] at q6
        exact ⟨rfl, q1, q2, by simp [lookE_setE, q6]⟩)
    obtain ⟨x, st', r1, rfl, r2, r3, r4⟩ := key ts.length 0 { tE := [], vE := [(0, sv), (1, tv), (2, .bool strict), (6, .int .i64 0), (12, .bool false), (7, .int .i64 0), (8, .int .i64 0)], H := H, low := H.length } (by omega) ⟨rfl, rfl, rfl, rfl, rfl, by simp [sumB, lookupE], rfl⟩
    rw [← F27L0_for] at r1
    simp [F27, callBody, zipE, execL_seq, execL_region, execL_cond, execL_skip, execL_ret, execL_exit, execL_block, execOps, wantedA, S_mv, S_pick, S_bin, S_un, S_call0, S_call1, S_extract, S_nilEq, S_load, S_alloc, Opd.ev, lookupE, setE, St.put, binA, unA, boolOf, freezeVs, freezeV, freeze1, isP, isPs, resultsA, resultA, finish, old, olds, flat, movedH_same, Nat.min_self, loadA, readCells, cellsV_int, slE_isP hs.sl, slE_isP ht.sl, hv, r1, r2, r3, r4, lookE_setE]
end Go.Abs.T09
/- CellsLayouts answers true. -/
namespace Go.Abs.T09
open Go Go.Abs

/-- What the two Tuples return. -/
theorem tuples_same {sv cv : V} {sizes cols : List Int} (hs : VI sv sizes) (hc : VI cv cols) (H : Heap) :
    ∃ a b, Ans (.fn 17 [] []) [sv, cv] H a ∧ Ans (.fn 26 [] []) [sv, cv] H b ∧ slE 1 a = true ∧ slE 1 b = true ∧ (el a).length = (el b).length ∧ (el a).length < 4611686018427387904 ∧
      ∀ k, k < (el a).length → ∃ x y l, (el a)[k]? = some x ∧ (el b)[k]? = some y ∧ cellsV x = [x] ∧ cellsV y = [y] ∧ VI x l ∧ VI y l := by
  have h26 := tuples26_s hs hc H
  cases hg : goodCols sizes cols && sizes.all okSize with
  | false =>
    have hR : tupsR sizes cols = .nil0 := by simp [tupsR, hg]
    rw [hR] at h26
    have hbad : (decide (cols.length ≤ 3) && !cols.any (badCol sizes)) = false ∨ (sizes.all fun n => decide (1 ≤ n) && decide (n ≤ 6)) = false := by
      rw [Bool.and_eq_false_iff] at hg
      exact hg
    exact ⟨.nil0, .nil0, tuples_bad_g H hs hc hbad, h26, rfl, rfl, rfl, by decide, fun k hk => absurd hk (Nat.not_lt_zero k)⟩
  | true =>
    have hR : tupsR sizes cols = .list 1 ((tupsF (dimsOf sizes cols)).map tupV) := by simp only [tupsR, hg, if_true]
    rw [hR] at h26
    rw [Bool.and_eq_true] at hg
    obtain ⟨hgc, hok⟩ := hg
    have hcol : (decide (cols.length ≤ 3) && !cols.any (badCol sizes)) = true := hgc
    have hsz : (sizes.all fun n => decide (1 ≤ n) && decide (n ≤ 6)) = true := hok
    have hd := dims_in hok hgc
    have hd1 : ∀ d ∈ dimsOf sizes cols, 1 ≤ d := fun d h => (hd d h).1
    have hdl : (dimsOf sizes cols).length = cols.length := by simp [dimsOf]
    have hcb := cols_bound hok hgc
    have h3 := (goodCols_in hgc).1
    by_cases hne : cols = []
    · subst hne
      refine ⟨.list 1 [.emp], _, tuples_emp_g H hs hc hsz, h26, rfl, rfl, rfl, by decide, fun k hk => ?_⟩
      have : k = 0 := by simp [el] at hk; exact hk
      subst this
      exact ⟨.emp, .emp, [], rfl, rfl, rfl, rfl, ⟨rfl, rfl, by decide⟩, ⟨rfl, rfl, by decide⟩⟩
    · have hfull := hcb cols.length (Nat.le_refl _)
      rw [List.take_of_length_le (by rw [hdl]; exact Nat.le_refl _)] at hfull
      obtain ⟨W, hW⟩ : ∃ W : Nat, prodI (dimsOf sizes cols) = W := ⟨(prodI (dimsOf sizes cols)).toNat, by omega⟩
      have hlen := tupsF_length hd1
      have hWl : (tupsF (dimsOf sizes cols)).length = W := by omega
      refine ⟨_, _, tuples_good_g H hs hc hcol hsz hne hW (by omega) (by omega) (fun k hk => ?_) (goodCols_in hgc).2 hd h3, h26, rfl, rfl, ?_, ?_, fun k hk => ?_⟩
      · have := hcb k hk; omega
      · simp [el, Lk, hWl]
      · simp [el, Lk]; omega
      · have hkW : k < W := by simpa [el, Lk] using hk
        have hR := tk_inR hd1 k
        have hv := tk_val hd1 k (by omega)
        have hget := (tupsF_iff' hd1 k (tk (dimsOf sizes cols) k)).2 ⟨hR, hv⟩
        have hle : (tk (dimsOf sizes cols) k).length = cols.length := hR.1.trans hdl
        refine ⟨tv (tk (dimsOf sizes cols) k), tupV (tk (dimsOf sizes cols) k), tk (dimsOf sizes cols) k, by simp [el, Lk, hkW], by simp [el, hget], rfl, cellsV_tupV _, (tv_VI (by omega)).1, tupV_VI (by omega)⟩

def F6R1 : List AOper := [⟨some (25, false), .mv (.var 0), none⟩, ⟨some (26, false), .call false (.func 22) [(.tmp 25)], none⟩, ⟨some (27, false), .mv (.var 0), none⟩, ⟨some (28, false), .call false (.func 23) [(.tmp 27)], none⟩, ⟨some (29, false), .call false (.func 14) [(.tmp 26), (.tmp 28)], none⟩, ⟨some (30, false), .mv (.tmp 29), none⟩, ⟨some (31, false), .mv (.var 1), some ((.tmp 30), true)⟩, ⟨some (32, false), .mv (.var 2), some ((.tmp 30), true)⟩, ⟨some (33, false), .call false (.func 15) [(.tmp 31), (.tmp 32)], some ((.tmp 30), true)⟩, ⟨some (34, false), .mv (.var 1), some ((.tmp 30), true)⟩, ⟨some (35, false), .mv (.var 2), some ((.tmp 30), true)⟩, ⟨some (36, false), .call false (.func 24) [(.tmp 34), (.tmp 35)], some ((.tmp 30), true)⟩, ⟨some (37, false), .nilEq 4 false (.tmp 33) (.tmp 36), some ((.tmp 30), true)⟩, ⟨some (38, false), .pick (.tmp 30) (.tmp 37) (.const (.bool false)), none⟩, ⟨some (39, false), .mv (.tmp 38), none⟩]
def F6R2 : List AOper := [⟨some (40, false), .mv (.var 1), some ((.tmp 39), true)⟩, ⟨some (41, false), .mv (.var 3), some ((.tmp 39), true)⟩, ⟨some (42, false), .call false (.func 17) [(.tmp 40), (.tmp 41)], some ((.tmp 39), true)⟩, ⟨some (43, false), .mv (.var 1), some ((.tmp 39), true)⟩, ⟨some (44, false), .mv (.var 3), some ((.tmp 39), true)⟩, ⟨some (45, false), .call false (.func 26) [(.tmp 43), (.tmp 44)], some ((.tmp 39), true)⟩, ⟨some (46, false), .call false (.func 25) [(.tmp 42), (.tmp 45), (.func 14)], some ((.tmp 39), true)⟩, ⟨some (47, false), .pick (.tmp 39) (.tmp 46) (.const (.bool false)), none⟩, ⟨some (48, false), .mv (.tmp 47), none⟩]
def F6R3 : List AOper := [⟨some (49, false), .mv (.var 1), some ((.tmp 48), true)⟩, ⟨some (50, false), .mv (.var 2), some ((.tmp 48), true)⟩, ⟨some (51, false), .call false (.func 16) [(.tmp 49), (.tmp 50), (.const (.bool true))], some ((.tmp 48), true)⟩, ⟨some (52, false), .mv (.var 1), some ((.tmp 48), true)⟩, ⟨some (53, false), .mv (.var 2), some ((.tmp 48), true)⟩, ⟨some (54, false), .call false (.func 27) [(.tmp 52), (.tmp 53), (.const (.bool true))], some ((.tmp 48), true)⟩, ⟨some (55, false), .bin .eql (.tmp 51) (.tmp 54), some ((.tmp 48), true)⟩, ⟨some (56, false), .pick (.tmp 48) (.tmp 55) (.const (.bool false)), none⟩, ⟨some (57, false), .mv (.tmp 56), none⟩]
def F6R4 : List AOper := [⟨some (58, false), .mv (.var 1), some ((.tmp 57), true)⟩, ⟨some (59, false), .mv (.var 2), some ((.tmp 57), true)⟩, ⟨some (60, false), .call false (.func 16) [(.tmp 58), (.tmp 59), (.const (.bool false))], some ((.tmp 57), true)⟩, ⟨some (61, false), .mv (.var 1), some ((.tmp 57), true)⟩, ⟨some (62, false), .mv (.var 2), some ((.tmp 57), true)⟩, ⟨some (63, false), .call false (.func 27) [(.tmp 61), (.tmp 62), (.const (.bool false))], some ((.tmp 57), true)⟩, ⟨some (64, false), .bin .eql (.tmp 60) (.tmp 63), some ((.tmp 57), true)⟩, ⟨some (65, false), .pick (.tmp 57) (.tmp 64) (.const (.bool false)), none⟩, ⟨some (8, true), .mv (.tmp 65), none⟩]
theorem F6_cut : F6 = ⟨66, .seq (.region [⟨some (8, true), .mv (.const (.bool false)), none⟩] none) (.seq (.seq (.region [⟨some (9, false), .call false (.func 8) [], none⟩, ⟨some (10, true), .un .not (.tmp 9), none⟩] none) (.cond (.var 10) (.seq (.region [⟨some (8, true), .mv (.const (.bool false)), none⟩] none) (.ret)) (.skip))) (.seq (.seq (.region [⟨some (11, false), .mv (.var 1), none⟩, ⟨some (12, false), .mv (.var 2), none⟩, ⟨some (13, false), .call false (.func 9) [(.tmp 11), (.tmp 12)], none⟩, ⟨some (14, false), .un .not (.tmp 13), none⟩, ⟨some (15, false), .mv (.tmp 14), none⟩, ⟨some (16, false), .mv (.var 0), some ((.tmp 15), false)⟩, ⟨some (17, false), .len 1 (.tmp 16), some ((.tmp 15), false)⟩, ⟨some (18, false), .bin .gtr (.tmp 17) (.const (.int .i64 20)), some ((.tmp 15), false)⟩, ⟨some (19, false), .pick (.tmp 15) (.const (.bool true)) (.tmp 18), none⟩, ⟨some (20, false), .mv (.tmp 19), none⟩, ⟨some (21, false), .mv (.var 3), some ((.tmp 20), false)⟩, ⟨some (22, false), .len 1 (.tmp 21), some ((.tmp 20), false)⟩, ⟨some (23, false), .bin .gtr (.tmp 22) (.const (.int .i64 20)), some ((.tmp 20), false)⟩, ⟨some (24, true), .pick (.tmp 20) (.const (.bool true)) (.tmp 23), none⟩] none) (.cond (.var 24) (.seq (.region [⟨some (8, true), .mv (.const (.bool true)), none⟩] none) (.ret)) (.skip))) (.seq (.region (F6R1 ++ (F6R2 ++ (F6R3 ++ F6R4))) none) (.ret)))), [.tmp 8], false⟩ := rfl

theorem execOps_app (call : CallT) : ∀ (l1 l2 : List AOper) (st : St) (wr : List Bool), execOps call (l1 ++ l2) st wr = match execOps call l1 st wr with | some (st', wr') => execOps call l2 st' wr'.reverse | none => none
  | [], l2, st, wr => by simp [execOps]
  | o :: r, l2, st, wr => by
    simp only [List.cons_append, execOps]
    cases wantedA st.tE st.vE o.guard with
    | none => rfl
    | some b =>
      cases b with
      | false => exact execOps_app call r l2 _ _
      | true =>
        simp only
        cases stepC call (Opd.ev st.tE st.vE) st.H st.H.length o.op with
        | none => rfl
        | some p => exact execOps_app call r l2 _ _

section
variable {ov sv tv cv : V} {st : St} {wr : List Bool}
set_option maxHeartbeats 1000000 in
theorem ly_1 {w1 w2 : V} (hop : isP ov = true) (p1 : isP w1 = true) (p2 : isP w2 = true) (hsp : isP sv = true) (htp : isP tv = true) (c1 : callL tab (.fn 22 [] []) [ov] [] = some (w1, [], 0)) (c2 : callL tab (.fn 23 [] []) [ov] [] = some (w2, [], 0)) (c3 : callL tab (.fn 14 [] []) [w1, w2] [] = some (.bool true, [], 0))
    {vb : Bool} (c4 : callL tab (.fn 15 [] []) [sv, tv] [] = some (.bool vb, [], 0)) (c5 : callL tab (.fn 24 [] []) [sv, tv] [] = some (.bool vb, [], 0))
    (h1 : st.H = []) (h2 : st.low = 0) (l0 : lookupE st.vE 0 = ov) (l1 : lookupE st.vE 1 = sv) (l2 : lookupE st.vE 2 = tv) :
    ∃ tE' wr', execOps (callL tab) F6R1 st wr = some ({ st with tE := tE' }, wr') ∧ lookupE tE' 39 = .bool true := by
  obtain ⟨tE, vE, H, low, ro⟩ := st
  simp only at h1 h2 l0 l1 l2
  subst h1; subst h2
  exact ⟨_, _, by simp [F6R1, callBody, zipE, execL_seq, execL_region, execL_cond, execL_skip, execL_ret, execL_exit, execL_block, execOps, wantedA, S_mv, S_pick, S_bin, S_un, S_call0, S_call1, S_extract, S_nilEq, S_load, S_alloc, Opd.ev, lookupE, lookE_setE, St.put, binA, unA, boolOf, freezeVs, freezeV, freeze1, isP, isPs, resultsA, resultA, finish, old, olds, flat, movedH_same, Nat.min_self, loadA, readCells, cellsV_int, l0, l1, l2, hop, p1, p2, hsp, htp, c1, c2, c3, c4, c5, nilEqA]; exact ⟨rfl, rfl⟩, by simp [lookupE]⟩
set_option maxHeartbeats 1000000 in
theorem ly_2 {a b : V} (hsp : isP sv = true) (hcp : isP cv = true) (pa : isP a = true) (pb : isP b = true) (c6 : callL tab (.fn 17 [] []) [sv, cv] [] = some (a, [], 0)) (c7 : callL tab (.fn 26 [] []) [sv, cv] [] = some (b, [], 0)) (c8 : callL tab (.fn 25 [] []) [a, b, .fn 14 [] []] [] = some (.bool true, [], 0))
    (h1 : st.H = []) (h2 : st.low = 0) (l1 : lookupE st.vE 1 = sv) (l3 : lookupE st.vE 3 = cv) (ht : lookupE st.tE 39 = .bool true) :
    ∃ tE' wr', execOps (callL tab) F6R2 st wr = some ({ st with tE := tE' }, wr') ∧ lookupE tE' 48 = .bool true := by
  obtain ⟨tE, vE, H, low, ro⟩ := st
  simp only at h1 h2 l1 l3 ht
  subst h1; subst h2
  exact ⟨_, _, by simp [F6R2, callBody, zipE, execL_seq, execL_region, execL_cond, execL_skip, execL_ret, execL_exit, execL_block, execOps, wantedA, S_mv, S_pick, S_bin, S_un, S_call0, S_call1, S_extract, S_nilEq, S_load, S_alloc, Opd.ev, lookupE, lookE_setE, St.put, binA, unA, boolOf, freezeVs, freezeV, freeze1, isP, isPs, resultsA, resultA, finish, old, olds, flat, movedH_same, Nat.min_self, loadA, readCells, cellsV_int, l1, l3, ht, hsp, hcp, pa, pb, c6, c7, c8]; exact ⟨rfl, rfl⟩, by simp [lookupE]⟩
set_option maxHeartbeats 1000000 in
theorem ly_3 {n : Int} (hsp : isP sv = true) (htp : isP tv = true) (c9 : callL tab (.fn 16 [] []) [sv, tv, .bool true] [] = some (.int .i64 n, [], 0)) (c11 : callL tab (.fn 27 [] []) [sv, tv, .bool true] [] = some (.int .i64 n, [], 0))
    (h1 : st.H = []) (h2 : st.low = 0) (l1 : lookupE st.vE 1 = sv) (l2 : lookupE st.vE 2 = tv) (ht : lookupE st.tE 48 = .bool true) :
    ∃ tE' wr', execOps (callL tab) F6R3 st wr = some ({ st with tE := tE' }, wr') ∧ lookupE tE' 57 = .bool true := by
  obtain ⟨tE, vE, H, low, ro⟩ := st
  simp only at h1 h2 l1 l2 ht
  subst h1; subst h2
  exact ⟨_, _, by simp [F6R3, callBody, zipE, execL_seq, execL_region, execL_cond, execL_skip, execL_ret, execL_exit, execL_block, execOps, wantedA, S_mv, S_pick, S_bin, S_un, S_call0, S_call1, S_extract, S_nilEq, S_load, S_alloc, Opd.ev, lookupE, lookE_setE, St.put, binA, unA, boolOf, freezeVs, freezeV, freeze1, isP, isPs, resultsA, resultA, finish, old, olds, flat, movedH_same, Nat.min_self, loadA, readCells, cellsV_int, l1, l2, ht, hsp, htp, c9, c11]; exact ⟨rfl, rfl⟩, by simp [lookupE]⟩
set_option maxHeartbeats 1000000 in
theorem ly_4 {n : Int} (hsp : isP sv = true) (htp : isP tv = true) (c9 : callL tab (.fn 16 [] []) [sv, tv, .bool false] [] = some (.int .i64 n, [], 0)) (c11 : callL tab (.fn 27 [] []) [sv, tv, .bool false] [] = some (.int .i64 n, [], 0))
    (h1 : st.H = []) (h2 : st.low = 0) (l1 : lookupE st.vE 1 = sv) (l2 : lookupE st.vE 2 = tv) (ht : lookupE st.tE 57 = .bool true) :
    ∃ tE' wr', execOps (callL tab) F6R4 st wr = some ({ st with tE := tE', vE := setE st.vE 8 (.bool true) }, wr') := by
  obtain ⟨tE, vE, H, low, ro⟩ := st
  simp only at h1 h2 l1 l2 ht
  subst h1; subst h2
  exact ⟨_, _, by simp [F6R4, callBody, zipE, execL_seq, execL_region, execL_cond, execL_skip, execL_ret, execL_exit, execL_block, execOps, wantedA, S_mv, S_pick, S_bin, S_un, S_call0, S_call1, S_extract, S_nilEq, S_load, S_alloc, Opd.ev, lookupE, lookE_setE, St.put, binA, unA, boolOf, freezeVs, freezeV, freeze1, isP, isPs, resultsA, resultA, finish, old, olds, flat, movedH_same, Nat.min_self, loadA, readCells, cellsV_int, l1, l2, ht, hsp, htp, c9, c11]; exact ⟨rfl, rfl⟩⟩
end

set_option maxHeartbeats 4000000 in
theorem cellsLayouts_s {ov sv tv cv : V} {ss : List So} {sizes cols : List Int} {ts : List Tb} (ho : VS ov ss) (hs : VI sv sizes) (ht : VT tv ts) (hc : VI cv cols) :
    callL tab (.fn 6 [] []) [ov, sv, tv, cv] [] = some (.bool true, [], 0) := by
  have haw := awake_s
  have hf := few_s hs ht []
  unfold Ans at hf
  simp only [List.length_nil] at hf
  have hop := slE_isP ho.sl
  have hsp := slE_isP hs.sl
  have htp := slE_isP ht.sl
  have hcp := slE_isP hc.sl
  rw [callL_fn, show tab 6 = some (.code F6) from rfl]
  cases hF : fewB sizes ts with
  | false =>
    rw [hF] at hf
    simp [F6, callBody, zipE, execL_seq, execL_region, execL_cond, execL_skip, execL_ret, execL_exit, execL_block, execOps, wantedA, S_mv, S_pick, S_bin, S_un, S_call0, S_call1, S_extract, S_nilEq, S_load, S_alloc, Opd.ev, lookupE, setE, St.put, binA, unA, boolOf, freezeVs, freezeV, freeze1, isP, isPs, resultsA, resultA, finish, old, olds, flat, movedH_same, Nat.min_self, loadA, readCells, cellsV_int, haw, hf, hsp, htp]
  | true =>
    rw [hF] at hf
    by_cases h20 : (20 : Int) < (ss.length : Int)
    · simp [F6, callBody, zipE, execL_seq, execL_region, execL_cond, execL_skip, execL_ret, execL_exit, execL_block, execOps, wantedA, S_mv, S_pick, S_bin, S_un, S_call0, S_call1, S_extract, S_nilEq, S_load, S_alloc, Opd.ev, lookupE, setE, St.put, binA, unA, boolOf, freezeVs, freezeV, freeze1, isP, isPs, resultsA, resultA, finish, old, olds, flat, movedH_same, Nat.min_self, loadA, readCells, cellsV_int, haw, hf, hsp, htp, S_len 2, ho.sl, ho.len, h20]
    · by_cases h20c : (20 : Int) < (cols.length : Int)
      · simp [F6, callBody, zipE, execL_seq, execL_region, execL_cond, execL_skip, execL_ret, execL_exit, execL_block, execOps, wantedA, S_mv, S_pick, S_bin, S_un, S_call0, S_call1, S_extract, S_nilEq, S_load, S_alloc, Opd.ev, lookupE, setE, St.put, binA, unA, boolOf, freezeVs, freezeV, freeze1, isP, isPs, resultsA, resultA, finish, old, olds, flat, movedH_same, Nat.min_self, loadA, readCells, cellsV_int, haw, hf, hsp, htp, S_len 2, S_len 1, ho.sl, ho.len, hc.sl, hc.len, h20, h20c]
      · have hnm : ∀ t ∈ ts, t.name.length ≤ 4096 := fun t htm => by
          unfold fewB at hF
          simp only [Bool.and_eq_true, List.all_eq_true] at hF
          have := hF.1 t htm
          simp only [fewT, Bool.and_eq_true, decide_eq_true_eq] at this
          omega
        obtain ⟨w1, c1, v1⟩ := sizes22_s ho (by omega) []
        obtain ⟨w2, c2, v2⟩ := sizes23_s ho (by omega) []
        have c3 := ints_s v1 v2 []
        rw [beq_self_eq_true] at c3
        have c4 := valid_s hs ht []
        have c5 := valid2_s hs ht hnm []
        obtain ⟨a, b, c6, c7, sa, sb, hl, hlt, hpt⟩ := tuples_same hs hc []
        have c8 := equalFunc_s sa sb hl hlt hpt []
        have c9 := count_s (strict := true) hs ht []
        have c10 := count_s (strict := false) hs ht []
        have c11 := count2_s (strict := true) hs ht hnm []
        have c12 := count2_s (strict := false) hs ht hnm []
        unfold Ans at c1 c2 c3 c4 c5 c6 c7 c8 c9 c10 c11 c12
        simp only [List.length_nil] at c1 c2 c3 c4 c5 c6 c7 c8 c9 c10 c11 c12
        have p1 := slE_isP v1.sl
        have p2 := slE_isP v2.sl
        have pa := slE_isP sa
        have pb := slE_isP sb
        generalize validB sizes ts = vb at *
        generalize countR true sizes ts = ct at *
        generalize countR false sizes ts = cf at *
        have key : ∀ st : St, st.H = [] → st.low = 0 → lookupE st.vE 0 = ov → lookupE st.vE 1 = sv → lookupE st.vE 2 = tv → lookupE st.vE 3 = cv →
            execL tab (.region (F6R1 ++ (F6R2 ++ (F6R3 ++ F6R4))) none) st = some (.normal, { st with tE := [], vE := setE st.vE 8 (.bool true) }) := by
          intro st h1 h2 l0 l1 l2 l3
          obtain ⟨t1, r1, d1, e1⟩ := ly_1 (wr := []) (st := { st with tE := [] }) hop p1 p2 hsp htp c1 c2 c3 c4 c5 h1 h2 l0 l1 l2
          obtain ⟨t2, r2, d2, e2⟩ := ly_2 (wr := r1.reverse) (st := { st with tE := t1 }) hsp hcp pa pb c6 c7 c8 h1 h2 l1 l3 e1
          obtain ⟨t3, r3, d3, e3⟩ := ly_3 (wr := r2.reverse) (st := { st with tE := t2 }) hsp htp c9 c11 h1 h2 l1 l2 e2
          obtain ⟨t4, r4, d4⟩ := ly_4 (wr := r3.reverse) (st := { st with tE := t3 }) hsp htp c10 c12 h1 h2 l1 l2 e3
          rw [execL_region, execOps_app, d1]
          simp only []
          rw [execOps_app, d2]
          simp only []
          rw [execOps_app, d3]
          simp only []
          rw [d4]
        rw [F6_cut]
        have k1 := key { tE := [], vE := [(0, ov), (1, sv), (2, tv), (3, cv), (8, .bool false), (10, .bool false), (24, .bool false)], H := [], low := 0 } rfl rfl rfl rfl rfl rfl
        generalize (ACode.region (F6R1 ++ (F6R2 ++ (F6R3 ++ F6R4))) none) = R at *
        simp [callBody, zipE, execL_seq, execL_region, execL_cond, execL_skip, execL_ret, execL_exit, execL_block, execOps, wantedA, S_mv, S_pick, S_bin, S_un, S_call0, S_call1, S_extract, S_nilEq, S_load, S_alloc, Opd.ev, lookupE, setE, St.put, binA, unA, boolOf, freezeVs, freezeV, freeze1, isP, isPs, resultsA, resultA, finish, old, olds, flat, movedH_same, Nat.min_self, loadA, readCells, cellsV_int, haw, hf, hsp, htp, S_len 2, S_len 1, ho.sl, ho.len, hc.sl, hc.len, h20, h20c, k1]
end Go.Abs.T09
