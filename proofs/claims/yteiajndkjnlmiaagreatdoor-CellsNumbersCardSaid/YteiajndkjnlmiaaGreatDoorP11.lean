/- The reference's place, Cell, nth and Tuple answer as cells.Cell and cells.Tuple do. -/
import Derived.Test.YteiajndkjnlmiaaGreatDoorP10
import Derived.Test.YteiajndkjnlmiaaGreatDoorP09
import Derived.Test.YteiajndkjnlmiaaGreatDoorP07
set_option linter.unusedVariables false
set_option linter.unusedSimpArgs false
namespace Go.Abs.T09
open Go Go.Abs

/-! ### the place of a tuple -/
theorem valP_snoc {ds t : List Int} {d x : Int} (h : t.length = ds.length) : valP (ds ++ [d]) (t ++ [x]) (ds.length + 1) = valP ds t ds.length * d + x := by
  have e : ∀ i, i ≤ ds.length → valP (ds ++ [d]) (t ++ [x]) i = valP ds t i := by
    intro i
    induction i with
    | zero => intro _; rfl
    | succ i ih =>
      intro hi
      simp only [valP]
      rw [ih (by omega), List.getElem?_append_left (by omega), List.getElem?_append_left (by omega)]
  simp only [valP]
  rw [e _ (Nat.le_refl _)]
  rw [List.getElem?_append_right (Nat.le_refl _), List.getElem?_append_right (by omega)]
  simp [h]

theorem InR.snoc {ds t : List Int} {d x : Int} (h : InR ds t) (h0 : 0 ≤ x) (h1 : x < d) : InR (ds ++ [d]) (t ++ [x]) := by
  have hl := h.1
  refine ⟨by simp [hl], fun i y e hy he => ?_⟩
  rcases Nat.lt_or_ge i ds.length with hi | hi
  · rw [List.getElem?_append_left (by omega)] at hy he
    exact h.2 i y e hy he
  · rw [List.getElem?_append_right (by omega)] at hy he
    rw [hl] at hy
    rcases Nat.eq_zero_or_pos (i - ds.length) with hz | hz
    · rw [hz] at hy he
      simp at hy he
      subst hy; subst he
      exact ⟨h0, h1⟩
    · rw [List.getElem?_eq_none (by simp; omega)] at hy; cases hy

theorem InR.init {ds t : List Int} {d x : Int} (h : InR (ds ++ [d]) (t ++ [x])) (hl : t.length = ds.length) : InR ds t ∧ 0 ≤ x ∧ x < d := by
  refine ⟨⟨hl, fun i y e hy he => ?_⟩, ?_⟩
  · have hi : i < ds.length := by
      rcases Nat.lt_or_ge i ds.length with hi | hi
      · exact hi
      · rw [List.getElem?_eq_none hi] at he; cases he
    exact h.2 i y e (by rw [List.getElem?_append_left (by omega)]; exact hy) (by rw [List.getElem?_append_left (by omega)]; exact he)
  · exact h.2 ds.length x d (by rw [← hl]; simp) (by simp)

/-- The tuples stand at the numbers that they spell. -/
theorem tupsF_iff {ds : List Int} (hd : ∀ d ∈ ds, 1 ≤ d) : ∀ k, k ≤ ds.length → ∀ (j : Nat) (t : List Int), (tupsF (ds.take k))[j]? = some t ↔ InR (ds.take k) t ∧ valP (ds.take k) t (ds.take k).length = j
  | 0, _, j, t => by
    simp only [List.take_zero, tupsF, List.foldl_nil, List.length_nil, valP]
    cases j with
    | zero =>
      simp only [List.getElem?_cons_zero, Option.some.injEq]
      constructor
      · rintro rfl; exact ⟨⟨rfl, fun i x d hx => by simp at hx⟩, rfl⟩
      · rintro ⟨h, -⟩; exact (List.length_eq_zero_iff.1 h.1).symm
    | succ j =>
      simp
      intro _ h
      omega
  | k + 1, hk, j, t => by
    obtain ⟨d, hdk⟩ : ∃ d, ds[k]? = some d := ⟨_, List.getElem?_eq_getElem (by omega)⟩
    have hd1 := hd d (List.mem_of_getElem? hdk)
    have e : ds.take (k + 1) = ds.take k ++ [d] := by rw [List.take_add_one, hdk]; rfl
    have ih := tupsF_iff hd k (by omega)
    have hlk : (ds.take k).length = k := by simp; omega
    rw [e, tupsF_snoc, grow_get _ hd1]
    have hlen1 : (ds.take k ++ [d]).length = (ds.take k).length + 1 := by simp
    rw [hlen1]
    constructor
    · intro h
      obtain ⟨u, hu, hut⟩ : ∃ u, (tupsF (ds.take k))[j / d.toNat]? = some u ∧ u ++ [((j % d.toNat : Nat) : Int)] = t := by
        cases hq : (tupsF (ds.take k))[j / d.toNat]? with
        | none => rw [hq] at h; cases h
        | some u => rw [hq] at h; exact ⟨u, rfl, Option.some.inj h⟩
      obtain ⟨h1, h2⟩ := (ih _ _).1 hu
      have hm : j % d.toNat < d.toNat := Nat.mod_lt _ (by omega)
      subst hut
      refine ⟨h1.snoc (by omega) (by omega), ?_⟩
      rw [valP_snoc h1.1, h2]
      have hdm := Nat.div_add_mod j d.toNat
      have e2 : ((j / d.toNat : Nat) : Int) * d = ((j / d.toNat * d.toNat : Nat) : Int) := by rw [Int.natCast_mul, Int.toNat_of_nonneg (by omega)]
      rw [e2]
      rw [Nat.mul_comm] at hdm
      omega
    · rintro ⟨h1, h2⟩
      have hl : t.length = k + 1 := by rw [h1.1, hlen1, hlk]
      obtain ⟨u, x, rfl⟩ : ∃ u x, t = u ++ [x] := by
        refine ⟨t.dropLast, t.getLast (by intro h; rw [h] at hl; simp at hl), ?_⟩
        rw [List.dropLast_concat_getLast]
      have hul : u.length = (ds.take k).length := by simp at hl; omega
      obtain ⟨g1, g2, g3⟩ := h1.init hul
      rw [valP_snoc hul] at h2
      have hv := valP_lt (ds := ds.take k) (t := u) (fun d hd' => hd d (List.mem_of_mem_take hd')) (ds.take k).length (Nat.le_refl _) (fun j x d _ hx hd => g1.2 j x d hx hd) (by omega)
      have hA := (ih (valP (ds.take k) u (ds.take k).length).toNat u).2 ⟨g1, by rw [Int.toNat_of_nonneg hv.1]⟩
      generalize valP (ds.take k) u (ds.take k).length = A at *
      obtain ⟨a, rfl⟩ := Int.eq_ofNat_of_zero_le hv.1
      obtain ⟨y, rfl⟩ := Int.eq_ofNat_of_zero_le g2
      obtain ⟨D, rfl⟩ := Int.eq_ofNat_of_zero_le (show 0 ≤ d by omega)
      have hj : j = a * D + y := by omega
      have hyD : y < D := by omega
      simp only [Int.toNat_natCast] at *
      have hq : j / D = a := by rw [hj, Nat.mul_comm, Nat.mul_add_div (by omega), Nat.div_eq_of_lt hyD]; omega
      have hr : j % D = y := by rw [hj, Nat.mul_comm, Nat.mul_add_mod, Nat.mod_eq_of_lt hyD]
      rw [hq, hr, hA]
      rfl

theorem tupsF_iff' {ds : List Int} (hd : ∀ d ∈ ds, 1 ≤ d) (j : Nat) (t : List Int) : (tupsF ds)[j]? = some t ↔ InR ds t ∧ valP ds t ds.length = j := by
  have := tupsF_iff hd ds.length (Nat.le_refl _) j t
  rwa [List.take_length] at this

open Classical in
theorem place_law {ds tu : List Int} (hd : ∀ d ∈ ds, 1 ≤ d) : (match (tupsF ds).findIdx? (· == tu) with | some k => (k : Int) | none => -1) = if InR ds tu then valP ds tu tu.length else -1 := by
  split
  · rename_i k hk
    obtain ⟨h1, h2, h3⟩ := List.findIdx?_eq_some_iff_getElem.1 hk
    have e : (tupsF ds)[k]? = some tu := by rw [List.getElem?_eq_getElem h1]; simpa using h2
    obtain ⟨a, b⟩ := (tupsF_iff' hd k tu).1 e
    rw [if_pos a, a.1, b]
  · rename_i hk
    rw [List.findIdx?_eq_none_iff] at hk
    by_cases hR : InR ds tu
    · exfalso
      have hv := valP_lt (ds := ds) (t := tu) hd ds.length (Nat.le_refl _) (fun j x d _ hx hd => hR.2 j x d hx hd) (by rw [hR.1]; exact Nat.le_refl _)
      have e := (tupsF_iff' hd (valP ds tu ds.length).toNat tu).2 ⟨hR, by rw [Int.toNat_of_nonneg hv.1]⟩
      have := hk tu (List.mem_of_getElem? e)
      simp at this
    · rw [if_neg hR]

def F32LB : ACode := .seq (.region [⟨some (12, false), .mv (.var 0), none⟩, ⟨some (13, false), .mv (.var 5), none⟩, ⟨some (14, false), .indexAddr 1 (.tmp 12) (.tmp 13), none⟩, ⟨some (15, false), .load none (.tmp 14), none⟩, ⟨some (16, false), .mv (.var 1), none⟩, ⟨some (17, true), .call false (.func 14) [(.tmp 15), (.tmp 16)], none⟩] none) (.cond (.var 17) (.seq (.region [⟨some (18, false), .mv (.var 5), none⟩, ⟨some (4, true), .mv (.tmp 18), none⟩] none) (.ret)) (.skip))
theorem F32L0_for : F32L0 = forBody 9 5 0 6 7 8 10 11 1 0 F32LB := rfl

set_option maxHeartbeats 1000000 in
theorem place_s {v uv : V} {l : List (List Int)} {tu : List Int} (hsl : slE 1 v = true) (hel : el v = l.map tupV) (hlt : l.length < 4611686018427387904) (hls : ∀ t ∈ l, t.length < 4611686018427387904) (hu : VI uv tu) (H : Heap) :
    Ans (.fn 32 [] []) [v, uv] H (.int .i64 (match l.findIdx? (· == tu) with | some k => (k : Int) | none => -1)) := by
  unfold Ans
  have key := for_loop (tab := tab) (b := 9) (i := 5) (xs := 0) (t1 := 6) (t2 := 7) (t3 := 8) (t4 := 10) (t5 := 11) (blk := 1) (ex := 0) (es := 1) (body := F32LB)
    (I := fun k st => st.H = H ∧ st.low = H.length ∧ lookupE st.vE 0 = v ∧ lookupE st.vE 1 = uv ∧ lookupE st.vE 5 = .int .i64 k ∧ ∀ t ∈ l.take k, (t == tu) = false)
    (Q := fun x st => st.H = H ∧ st.low = H.length ∧ ((x = .exit 0 ∧ l.findIdx? (· == tu) = none) ∨ (x = .ret ∧ ∃ k, l.findIdx? (· == tu) = some k ∧ lookupE st.vE 4 = .int .i64 k)))
    (N := l.length) hlt (by decide) (by decide) (by decide)
    (fun k st h => ⟨h.2.2.2.2.1, by rw [h.2.2.1]; exact hsl, by rw [h.2.2.1, hel]; simp, by rw [h.1, h.2.1]; exact Nat.le_refl _⟩)
    (by
      rintro k st hk ⟨h1, h2, h3, h4, h5, h7⟩
      obtain ⟨t, hx⟩ : ∃ t, l[k]? = some t := ⟨_, List.getElem?_eq_getElem hk⟩
      have hg : (el v)[k]? = some (tupV t) := by rw [hel]; simp [hx]
      have c := ints_s (tupV_VI (hls t (List.mem_of_getElem? hx))) hu H
      unfold Ans at c
      have hip := isP_tupV t
      cases he : (t == tu) with
      | true =>
        rw [he] at c
        refine ⟨.ret, _, by simp [F32LB, callBody, zipE, execL_seq, execL_region, execL_cond, execL_skip, execL_ret, execL_exit, execL_block, execOps, wantedA, S_mv, S_pick, S_bin, S_un, S_call0, S_call1, S_extract, S_nilEq, S_load, S_alloc, Opd.ev, lookupE, lookE_setE, St.put, binA, unA, boolOf, freezeVs, freezeV, freeze1, isP, isPs, resultsA, resultA, finish, old, olds, flat, movedH_same, Nat.min_self, loadA, readCells, cellsV_int, h1, h2, h3, h4, h5, S_index, hsl, hg, cellsV_tupV, hip, slE_isP hu.sl, c]; rfl, ?_⟩
        simp only [reduceCtorEq, or_self, if_false]
        refine ⟨by simp, by simp, .inr ⟨trivial, k, ?_, by simp [lookE_setE]⟩⟩
        rw [List.findIdx?_eq_some_iff_getElem]
        refine ⟨hk, ?_, fun j hj => ?_⟩
        · have : l[k] = t := by rw [List.getElem?_eq_getElem hk] at hx; exact Option.some.inj hx
          rw [this]; exact he
        · have hj' : (l.take k)[j]? = some (l[j]'(by omega)) := by rw [List.getElem?_take, if_pos hj, List.getElem?_eq_getElem (by omega)]
          have := h7 _ (List.mem_of_getElem? hj')
          simp [this]
      | false =>
        rw [he] at c
        refine ⟨.normal, _, by simp [F32LB, callBody, zipE, execL_seq, execL_region, execL_cond, execL_skip, execL_ret, execL_exit, execL_block, execOps, wantedA, S_mv, S_pick, S_bin, S_un, S_call0, S_call1, S_extract, S_nilEq, S_load, S_alloc, Opd.ev, lookupE, lookE_setE, St.put, binA, unA, boolOf, freezeVs, freezeV, freeze1, isP, isPs, resultsA, resultA, finish, old, olds, flat, movedH_same, Nat.min_self, loadA, readCells, cellsV_int, h1, h2, h3, h4, h5, S_index, hsl, hg, cellsV_tupV, hip, slE_isP hu.sl, c]; rfl, ?_⟩
        simp only [true_or, if_true, lookE_setE, h1, h2]
        refine ⟨by simp [h5], by simp, by simp, by simp, by simp [h3], by simp [h4], by simp, fun u hu => ?_⟩
        rw [List.take_add_one, hx] at hu
        simp at hu
        rcases hu with hu | rfl
        · exact h7 u hu
        · exact he)
    (by
      rintro st ⟨h1, h2, h3, h4, h5, h7⟩
      refine ⟨h1, h2, .inl ⟨rfl, ?_⟩⟩
      rw [List.findIdx?_eq_none_iff]
      rw [List.take_length] at h7
      exact h7)
  obtain ⟨x, st', h1, h2, h3, h4⟩ := key l.length 0 { tE := [], vE := [(0, v), (1, uv), (4, .int .i64 0), (5, .int .i64 0)], H := H, low := H.length } (by omega) ⟨rfl, rfl, rfl, rfl, rfl, fun m hm => by simp at hm⟩
  rw [← F32L0_for] at h1
  rw [callL_fn, show tab 32 = some (.code F32) from rfl]
  rcases h4 with ⟨rfl, h4⟩ | ⟨rfl, k, h4, h5⟩
  · rw [h4]; simp [F32, callBody, zipE, execL_seq, execL_region, execL_cond, execL_skip, execL_ret, execL_exit, execL_block, execOps, wantedA, S_mv, S_pick, S_bin, S_un, S_call0, S_call1, S_extract, S_nilEq, S_load, S_alloc, S_box, Opd.ev, lookupE, setE, St.put, binA, unA, boolOf, freezeVs, freezeV, freeze1, isP, isPs, resultsA, resultA, finish, old, olds, flat, movedH_same, Nat.min_self, loadA, readCells, cellsV, h1, h2, h3, lookE_setE]
  · rw [h4]; simp [F32, callBody, zipE, execL_seq, execL_region, execL_cond, execL_skip, execL_ret, execL_exit, execL_block, execOps, wantedA, S_mv, S_pick, S_bin, S_un, S_call0, S_call1, S_extract, S_nilEq, S_load, S_alloc, S_box, Opd.ev, lookupE, setE, St.put, binA, unA, boolOf, freezeVs, freezeV, freeze1, isP, isPs, resultsA, resultA, finish, old, olds, flat, movedH_same, Nat.min_self, loadA, readCells, cellsV, h1, h2, h3, h5, lookE_setE]

set_option maxHeartbeats 1000000 in
theorem cell2_s {sizes tu : List Int} {sv tv uv : V} {ts : List Tb} {table : Int} (hs : VI sv sizes) (ht : VT tv ts) (hnm : ∀ t ∈ ts, t.name.length ≤ 4096) (hu : VI uv tu) (H : Heap) :
    Ans (.fn 11 [] []) [sv, tv, .int .i64 table, uv] H (.tup [.int .i64 (cellR sizes ts table tu).1, .int .i64 (cellR sizes ts table tu).2]) := by
  have hv := valid2_s hs ht hnm H
  unfold Ans at *
  rw [callL_fn, show tab 11 = some (.code F11) from rfl]
  unfold cellR
  cases hV : validB sizes ts with
  | false =>
    rw [hV] at hv
    simp [F11, callBody, zipE, execL_seq, execL_region, execL_cond, execL_skip, execL_ret, execL_exit, execL_block, execOps, wantedA, S_mv, S_pick, S_bin, S_un, S_call0, S_call1, S_extract, S_nilEq, S_load, S_alloc, Opd.ev, lookupE, setE, St.put, binA, unA, boolOf, freezeVs, freezeV, freeze1, isP, isPs, resultsA, resultA, finish, old, olds, flat, movedH_same, Nat.min_self, loadA, readCells, cellsV_int, slE_isP hs.sl, slE_isP ht.sl, hv]
  | true =>
    rw [hV] at hv
    have hVd := valid_iff.1 hV
    by_cases h0 : table < 0
    · simp [F11, callBody, zipE, execL_seq, execL_region, execL_cond, execL_skip, execL_ret, execL_exit, execL_block, execOps, wantedA, S_mv, S_pick, S_bin, S_un, S_call0, S_call1, S_extract, S_nilEq, S_load, S_alloc, Opd.ev, lookupE, setE, St.put, binA, unA, boolOf, freezeVs, freezeV, freeze1, isP, isPs, resultsA, resultA, finish, old, olds, flat, movedH_same, Nat.min_self, loadA, readCells, cellsV_int, slE_isP hs.sl, slE_isP ht.sl, hv, h0]
    · by_cases h1 : (ts.length : Int) ≤ table
      · simp [F11, callBody, zipE, execL_seq, execL_region, execL_cond, execL_skip, execL_ret, execL_exit, execL_block, execOps, wantedA, S_mv, S_pick, S_bin, S_un, S_call0, S_call1, S_extract, S_nilEq, S_load, S_alloc, Opd.ev, lookupE, setE, St.put, binA, unA, boolOf, freezeVs, freezeV, freeze1, isP, isPs, resultsA, resultA, finish, old, olds, flat, movedH_same, Nat.min_self, loadA, readCells, cellsV_int, slE_isP hs.sl, slE_isP ht.sl, hv, h0, h1, S_len 6, ht.sl, ht.len]
      · obtain ⟨t, het⟩ : ∃ t, ts[table.toNat]? = some t := ⟨_, List.getElem?_eq_getElem (by omega)⟩
        have hto := ht.ok t (List.mem_of_getElem? het)
        have hg := ht.get het
        have hnn : 0 ≤ table := by omega
        have hgc := hVd.good het
        have hd := dims_in hVd.ok hgc
        have hd1 : ∀ d ∈ dimsOf sizes t.cl, 1 ≤ d := fun d h => (hd d h).1
        have ct := tuples26_s hs hto.cols H
        have hR : tupsR sizes t.cl = .list 1 ((tupsF (dimsOf sizes t.cl)).map tupV) := by simp [tupsR, hgc, hVd.ok]
        rw [hR] at ct
        have hll := tupsF_length hd1
        have hwd := hVd.widb het
        unfold wid at hwd
        have cp := place_s (v := .list 1 ((tupsF (dimsOf sizes t.cl)).map tupV)) (l := tupsF (dimsOf sizes t.cl)) rfl rfl (by omega) (fun u hu' => by
          have := tupsF_lens hd1 (dimsOf sizes t.cl).length (Nat.le_refl _) u (by rw [List.take_length]; exact hu')
          have := (goodCols_in hgc).1
          have : (dimsOf sizes t.cl).length = t.cl.length := by simp [dimsOf]
          omega) hu H
        rw [place_law hd1] at cp
        unfold Ans at ct cp
        have hip := isPs_tups (tupsF (dimsOf sizes t.cl))
        simp only [het]
        by_cases hRR : InR (dimsOf sizes t.cl) tu
        · rw [if_pos hRR] at cp
          have hb := valP_lt (fun d h => (hd d h).1) (dimsOf sizes t.cl).length (Nat.le_refl _) (fun j x d _ hx hd => hRR.2 j x d hx hd) (by rw [hRR.1]; exact Nat.le_refl _)
          rw [prodP_take _ _ (Nat.le_refl _), List.take_length, ← hRR.1] at hb
          have hfi := hVd.end_le het
          have hsa := hVd.sum_all (strictB t)
          have hw : IntKind.i64.wrap (t.first + valP (dimsOf sizes t.cl) tu tu.length) = t.first + valP (dimsOf sizes t.cl) tu tu.length := by
            unfold wid at hfi; rw [wrap_small] <;> omega
          have hnl : ¬ valP (dimsOf sizes t.cl) tu tu.length < 0 := by omega
          simp [F11, callBody, zipE, execL_seq, execL_region, execL_cond, execL_skip, execL_ret, execL_exit, execL_block, execOps, wantedA, S_mv, S_pick, S_bin, S_un, S_call0, S_call1, S_extract, S_nilEq, S_load, S_alloc, Opd.ev, lookupE, setE, St.put, binA, unA, boolOf, freezeVs, freezeV, freeze1, isP, isPs, resultsA, resultA, finish, old, olds, flat, movedH_same, Nat.min_self, loadA, readCells, cellsV_int, slE_isP hs.sl, slE_isP ht.sl, slE_isP hto.cols.sl, slE_isP hu.sl, hv, h0, h1, S_len 6, ht.sl, ht.len, S_index, natOf_nonneg _ hnn, hg, cellsV_tb, Tb.len, Tb.c2, Tb.e2, Tb.c5, Tb.e5, S_fieldAddr, ct, cp, hip, hRR, hw, hnl]
        · rw [if_neg hRR] at cp
          simp [F11, callBody, zipE, execL_seq, execL_region, execL_cond, execL_skip, execL_ret, execL_exit, execL_block, execOps, wantedA, S_mv, S_pick, S_bin, S_un, S_call0, S_call1, S_extract, S_nilEq, S_load, S_alloc, Opd.ev, lookupE, setE, St.put, binA, unA, boolOf, freezeVs, freezeV, freeze1, isP, isPs, resultsA, resultA, finish, old, olds, flat, movedH_same, Nat.min_self, loadA, readCells, cellsV_int, slE_isP hs.sl, slE_isP ht.sl, slE_isP hto.cols.sl, slE_isP hu.sl, hv, h0, h1, S_len 6, ht.sl, ht.len, S_index, natOf_nonneg _ hnn, hg, cellsV_tb, Tb.len, Tb.c2, Tb.e2, Tb.c5, Tb.e5, S_fieldAddr, ct, cp, hip, hRR]
end Go.Abs.T09
/- The reference's nth and Tuple. -/
namespace Go.Abs.T09
open Go Go.Abs

def keepN (e e' : Env) : Prop := ∀ s, s ≠ 2 → s ≠ 8 → s ≠ 16 → lookupE e' s = lookupE e s

set_option maxHeartbeats 1000000 in
theorem nth_loop {sizes cols : List Int} {sv cv : V} {q m0 n : Nat} (hs : VI sv sizes) (hc : VI cv cols) (hok : sizes.all okSize = true) (hgc : goodCols sizes cols = true) (hn : cols.length = n) (hmq : m0 ≤ q) :
    ∀ (i : Nat) (k : Int) (tu : List Int) (st : St), tu.length = n → i ≤ n → 0 ≤ k → k ≤ 1000000 → st.H[q]? = some (rowI tu) → st.low = m0 →
      lookupE st.vE 0 = sv → lookupE st.vE 1 = cv → lookupE st.vE 7 = .sref q 1 0 n n → lookupE st.vE 8 = .int .i64 ((i : Int) - 1) → lookupE st.vE 2 = .int .i64 k →
      ∃ st', execL tab (.loop F37L0) st = some (.exit 0, st') ∧ st'.H[q]? = some (rowI (dg (dimsOf sizes cols) i k tu)) ∧ st'.low = m0 ∧ keepN st.vE st'.vE
  | 0, k, tu, st, htu, hi, hk0, hk1, hq, hl1, l0, l1, l7, l8, l2 => by
    have hqH : q < st.H.length := by
      rcases Nat.lt_or_ge q st.H.length with h | h
      · exact h
      · rw [List.getElem?_eq_none h] at hq; cases hq
    have hlow : min m0 st.H.length = m0 := Nat.min_eq_left (by omega)
    rw [execL_loop]
    refine ⟨_, by simp [F37L0, callBody, zipE, execL_seq, execL_region, execL_cond, execL_skip, execL_ret, execL_exit, execL_block, execOps, wantedA, S_mv, S_pick, S_bin, S_un, S_call0, S_call1, S_extract, S_nilEq, S_load, S_alloc, Opd.ev, lookupE, lookE_setE, St.put, binA, unA, boolOf, freezeVs, freezeV, freeze1, isP, isPs, resultsA, resultA, finish, old, olds, flat, movedH_same, Nat.min_self, loadA, readCells, cellsV_int, l8]; rfl, ?_⟩
    refine ⟨by simpa [dg] using hq, by simp [hl1, hlow], fun s a b c => by simp [lookE_setE, c]⟩
  | i + 1, k, tu, st, htu, hi, hk0, hk1, hq, hl1, l0, l1, l7, l8, l2 => by
    have hit : i < tu.length := by omega
    obtain ⟨c, hcc⟩ : ∃ c, cols[i]? = some c := ⟨_, List.getElem?_eq_getElem (by omega)⟩
    obtain ⟨c0, c1⟩ := (goodCols_in hgc).2 c (List.mem_of_getElem? hcc)
    obtain ⟨d, hsd⟩ : ∃ d, sizes[c.toNat]? = some d := ⟨_, List.getElem?_eq_getElem (by omega)⟩
    have hdim : (dimsOf sizes cols)[i]? = some d := by simp [dimsOf, hcc, hsd]
    have hd1 := dims_in hok hgc d (List.mem_of_getElem? hdim)
    have hgc' := hc.get hcc
    have hgd := hs.get hsd
    have e8 : ((i + 1 : Nat) : Int) - 1 = (i : Int) := by omega
    rw [e8] at l8
    have hcl := hc.lt
    have hw2 : IntKind.i64.wrap ((i : Int) - 1) = (i : Int) - 1 := by rw [wrap_small] <;> omega
    have hge : (0 : Int) ≤ (i : Int) := by omega
    have hin' : i < n := by omega
    have hd0 : ¬ d = 0 := by omega
    have hq1 : k.tdiv d = k / d := Int.tdiv_eq_ediv_of_nonneg hk0
    have hq2 : k.tmod d = k % d := Int.tmod_eq_emod_of_nonneg hk0
    have hkd : 0 ≤ k / d ∧ k / d ≤ k := ⟨Int.ediv_nonneg hk0 (by omega), Int.ediv_le_self _ hk0⟩
    have hw3 : IntKind.i64.wrap (k / d) = k / d := by rw [wrap_small] <;> omega
    have hqE : ∀ h : q < st.H.length, st.H[q]'h = rowI tu := fun h => by rw [List.getElem?_eq_getElem h] at hq; exact Option.some.inj hq
    have hqH : q < st.H.length := by
      rcases Nat.lt_or_ge q st.H.length with h | h
      · exact h
      · rw [List.getElem?_eq_none h] at hq; cases hq
    have hlow : min m0 st.H.length = m0 := Nat.min_eq_left (by omega)
    have hlow2 : min m0 q = m0 := Nat.min_eq_left (by omega)
    have hstep : ∃ st1, execL tab F37L0 st = some (.normal, st1) ∧ st1.H = st.H.set q (rowI (tu.set i (k % d))) ∧ st1.low = m0 ∧ lookupE st1.vE 8 = .int .i64 ((i : Int) - 1) ∧ lookupE st1.vE 2 = .int .i64 (k / d) ∧ keepN st.vE st1.vE := by
      refine ⟨_, by simp [F37L0, callBody, zipE, execL_seq, execL_region, execL_cond, execL_skip, execL_ret, execL_exit, execL_block, execOps, wantedA, S_mv, S_pick, S_bin, S_un, S_call0, S_call1, S_extract, S_nilEq, S_load, S_alloc, Opd.ev, lookupE, lookE_setE, St.put, binA, unA, boolOf, freezeVs, freezeV, freeze1, isP, isPs, resultsA, resultA, finish, old, olds, flat, movedH_same, Nat.min_self, loadA, readCells, cellsV_int, l0, l1, l2, l7, l8, hq, hqE, hqH, S_index, S_indexR, isRow, rowI, hc.sl, hs.sl, hgc', hgd, natOf_nonneg _ c0, hd0, hq1, hq2, hw3, S_store, storeA, putElem, plainCells, plainCell, htu, hin', hit, hw2, inOrder, movedH, touches, hl1, hlow, hlow2]; rfl, ?_⟩
      refine ⟨by simp [rowI, List.map_set], by first | (simp; done) | (simp; omega), by simp [lookE_setE], by simp [lookE_setE], fun s a b c => by simp [lookE_setE, a, b, c]⟩
    obtain ⟨st1, q1, q2, q3, q5, q6, q7⟩ := hstep
    have hq' : st1.H[q]? = some (rowI (tu.set i (k % d))) := by rw [q2, List.getElem?_set_self hqH]
    obtain ⟨st', r1, r2, r3, r5⟩ := nth_loop hs hc hok hgc hn hmq i (k / d) (tu.set i (k % d)) st1 (by simp [htu]) (by omega) hkd.1 (by omega) hq' q3
      (by rw [q7 0 (by decide) (by decide) (by decide)]; exact l0) (by rw [q7 1 (by decide) (by decide) (by decide)]; exact l1) (by rw [q7 7 (by decide) (by decide) (by decide)]; exact l7) q5 q6
    refine ⟨st', by rw [execL_loop, q1]; exact r1, ?_, r3, fun s a b c => (r5 s a b c).trans (q7 s a b c)⟩
    rw [r2]
    simp only [dg, hdim, Option.getD_some]

set_option maxHeartbeats 1000000 in
theorem nth_s {sizes cols : List Int} {sv cv : V} {k : Int} (hs : VI sv sizes) (hc : VI cv cols) (hok : sizes.all okSize = true) (hgc : goodCols sizes cols = true) (hk : 0 ≤ k ∧ k ≤ 1000000) (H : Heap) :
    Ans (.fn 37 [] []) [sv, cv, .int .i64 k] H (tupV (tupleOf (dimsOf sizes cols) k)) := by
  unfold Ans
  rw [callL_fn, show tab 37 = some (.code F37) from rfl]
  have h3 := (goodCols_in hgc).1
  have hdl : (dimsOf sizes cols).length = cols.length := by simp [dimsOf]
  by_cases hz : cols = []
  · subst hz
    have hel : (el cv).length = 0 := by rw [hc.len]; rfl
    have hw : IntKind.i64.wrap (-1) = -1 := rfl
    have : ∀ st : St, lookupE st.vE 8 = .int .i64 (-1) → st.low = H.length → st.H = H → execL tab (.loop F37L0) st = some (.exit 0, { st with tE := [], vE := setE st.vE 16 (.bool false) }) := fun st h h2 h3 => by
      rw [execL_loop]
      obtain ⟨a, b, c, d, e⟩ := st
      simp only at h h2 h3
      subst h3
      subst h2
      simp [F37L0, callBody, zipE, execL_seq, execL_region, execL_cond, execL_skip, execL_ret, execL_exit, execL_block, execOps, wantedA, S_mv, S_pick, S_bin, S_un, S_call0, S_call1, S_extract, S_nilEq, S_load, S_alloc, Opd.ev, lookupE, lookE_setE, St.put, binA, unA, boolOf, freezeVs, freezeV, freeze1, isP, isPs, resultsA, resultA, finish, old, olds, flat, movedH_same, Nat.min_self, loadA, readCells, cellsV_int, h]
    simp [F37, callBody, zipE, execL_seq, execL_region, execL_cond, execL_skip, execL_ret, execL_exit, execL_block, execOps, wantedA, S_mv, S_pick, S_bin, S_un, S_call0, S_call1, S_extract, S_nilEq, S_load, S_alloc, S_box, Opd.ev, lookupE, setE, St.put, binA, unA, boolOf, freezeVs, freezeV, freeze1, isP, isPs, resultsA, resultA, finish, old, olds, flat, movedH_same, Nat.min_self, loadA, readCells, cellsV, S_len 1, hc.sl, hel, S_mkSlice, step, hw, this]
    rfl
  · have hpos : 0 < cols.length := List.length_pos_iff.2 hz
    have hnz : ¬ (cols.length : Int) = 0 := by omega
    have hnz' : ¬ cols.length = 0 := by omega
    have hcap : (cols.length : Int) * 9 ≤ 1099511627776 := by omega
    have hw : IntKind.i64.wrap ((cols.length : Int) - 1) = (cols.length : Int) - 1 := by rw [wrap_small] <;> omega
    obtain ⟨st', r1, r2, r3, r4⟩ := nth_loop (q := H.length) (m0 := H.length) hs hc hok hgc rfl (Nat.le_refl _) cols.length k (List.replicate cols.length 0)
      { tE := [], vE := [(0, sv), (1, cv), (2, .int .i64 k), (6, .nil0), (7, .sref H.length 1 0 cols.length cols.length), (8, .int .i64 ((cols.length : Int) - 1))], H := H ++ [rowI (List.replicate cols.length 0)], low := H.length } (by simp) (Nat.le_refl _) hk.1 hk.2 (by simp) rfl rfl rfl rfl rfl rfl
    have r5 : lookupE st'.vE 7 = .sref H.length 1 0 cols.length cols.length := r4 7 (by decide) (by decide) (by decide)
    have htl : (tupleOf (dimsOf sizes cols) k).length = cols.length := by unfold tupleOf; rw [dg_length]; simp [hdl]
    have e2 : dg (dimsOf sizes cols) cols.length k (List.replicate cols.length 0) = tupleOf (dimsOf sizes cols) k := by unfold tupleOf; rw [hdl]
    rw [e2] at r2
    generalize tupleOf (dimsOf sizes cols) k = l at *
    have hip := isPs_ints l
    have htk : List.take cols.length (l.map (V.int .i64)) = l.map (V.int .i64) := List.take_of_length_le (by simp [htl])
    have hrE : ∀ h : H.length < st'.H.length, st'.H[H.length]'h = rowI l := fun h => by rw [List.getElem?_eq_getElem h] at r2; exact Option.some.inj r2
    have hqH : H.length < st'.H.length := by
      rcases Nat.lt_or_ge H.length st'.H.length with h | h
      · exact h
      · rw [List.getElem?_eq_none h] at r2; cases r2
    have hmin : min H.length st'.H.length = H.length := Nat.min_eq_left (by omega)
    have hl0 : l ≠ [] := fun e => by rw [e] at htl; simp at htl; omega
    have hrow : rowI (List.replicate cols.length 0) = .row 1 (List.replicate cols.length (.int .i64 0)) false := by simp [rowI]
    rw [hrow] at r1
    simp [F37, callBody, zipE, execL_seq, execL_region, execL_cond, execL_skip, execL_ret, execL_exit, execL_block, execOps, wantedA, S_mv, S_pick, S_bin, S_un, S_call0, S_call1, S_extract, S_nilEq, S_load, S_alloc, S_box, Opd.ev, lookupE, setE, St.put, binA, unA, boolOf, freezeVs, freezeV, freeze1, isP, isPs, resultsA, resultA, finish, old, olds, flat, movedH_same, Nat.min_self, loadA, readCells, cellsV, S_len 1, hc.sl, hc.len, hnz, hnz', hz, hcap, S_mkSlice, step, zeroElem, hw, r1, r2, r3, r5, hrE, rowI, hip, htk, htl, tupV, hl0, hmin, lookE_setE]
end Go.Abs.T09
/- The reference's Tuple answers as cells.Tuple does. -/
namespace Go.Abs.T09
open Go Go.Abs

def F13LB : ACode := .seq (.region [⟨some (23, false), .mv (.var 3), none⟩, ⟨some (24, false), .mv (.var 1), none⟩, ⟨some (25, false), .mv (.var 11), none⟩, ⟨some (26, false), .indexAddr 6 (.tmp 24) (.tmp 25), none⟩, ⟨some (27, false), .fieldAddr 5 (.tmp 26), none⟩, ⟨some (28, false), .load none (.tmp 27), none⟩, ⟨some (29, false), .bin .sub (.tmp 23) (.tmp 28), none⟩, ⟨some (12, true), .mv (.tmp 29), none⟩] none) (.seq (.region [⟨some (30, false), .mv (.var 1), none⟩, ⟨some (31, false), .mv (.var 11), none⟩, ⟨some (32, false), .indexAddr 6 (.tmp 30) (.tmp 31), none⟩, ⟨some (33, false), .fieldAddr 1 (.tmp 32), none⟩, ⟨some (34, false), .load none (.tmp 33), none⟩, ⟨some (35, false), .call false (.func 35) [(.tmp 34)], none⟩, ⟨some (36, false), .mv (.var 2), none⟩, ⟨some (37, false), .nilEq 4 false (.tmp 35) (.tmp 36), none⟩, ⟨some (38, false), .mv (.tmp 37), none⟩, ⟨some (39, false), .mv (.var 3), some ((.tmp 38), true)⟩, ⟨some (40, false), .bin .geq (.tmp 39) (.const (.int .i64 0)), some ((.tmp 38), true)⟩, ⟨some (41, false), .pick (.tmp 38) (.tmp 40) (.const (.bool false)), none⟩, ⟨some (42, false), .mv (.tmp 41), none⟩, ⟨some (43, false), .mv (.var 12), some ((.tmp 42), true)⟩, ⟨some (44, false), .bin .geq (.tmp 43) (.const (.int .i64 0)), some ((.tmp 42), true)⟩, ⟨some (45, false), .pick (.tmp 42) (.tmp 44) (.const (.bool false)), none⟩, ⟨some (46, false), .mv (.tmp 45), none⟩, ⟨some (47, false), .mv (.var 12), some ((.tmp 46), true)⟩, ⟨some (48, false), .mv (.var 0), some ((.tmp 46), true)⟩, ⟨some (49, false), .mv (.var 1), some ((.tmp 46), true)⟩, ⟨some (50, false), .mv (.var 11), some ((.tmp 46), true)⟩, ⟨some (51, false), .indexAddr 6 (.tmp 49) (.tmp 50), some ((.tmp 46), true)⟩, ⟨some (52, false), .fieldAddr 2 (.tmp 51), some ((.tmp 46), true)⟩, ⟨some (53, false), .load none (.tmp 52), some ((.tmp 46), true)⟩, ⟨some (54, false), .call false (.func 36) [(.tmp 48), (.tmp 53)], some ((.tmp 46), true)⟩, ⟨some (55, false), .bin .lss (.tmp 47) (.tmp 54), some ((.tmp 46), true)⟩, ⟨some (56, true), .pick (.tmp 46) (.tmp 55) (.const (.bool false)), none⟩] none) (.cond (.var 56) (.seq (.region [⟨some (57, false), .mv (.var 11), none⟩, ⟨some (58, false), .mv (.var 0), none⟩, ⟨some (59, false), .mv (.var 1), none⟩, ⟨some (60, false), .mv (.var 11), none⟩, ⟨some (61, false), .indexAddr 6 (.tmp 59) (.tmp 60), none⟩, ⟨some (62, false), .fieldAddr 2 (.tmp 61), none⟩, ⟨some (63, false), .load none (.tmp 62), none⟩, ⟨some (64, false), .mv (.var 12), none⟩, ⟨some (65, false), .call false (.func 37) [(.tmp 58), (.tmp 63), (.tmp 64)], none⟩, ⟨some (8, true), .mv (.tmp 57), none⟩, ⟨some (9, true), .mv (.tmp 65), none⟩, ⟨some (10, true), .mv (.const (.bool true)), none⟩] none) (.ret)) (.skip)))
theorem F13L0_for : F13L0 = forBody 20 11 1 17 18 19 21 22 1 0 F13LB := rfl
def F13Pa : ACode := .region [⟨some (23, false), .mv (.var 3), none⟩, ⟨some (24, false), .mv (.var 1), none⟩, ⟨some (25, false), .mv (.var 11), none⟩, ⟨some (26, false), .indexAddr 6 (.tmp 24) (.tmp 25), none⟩, ⟨some (27, false), .fieldAddr 5 (.tmp 26), none⟩, ⟨some (28, false), .load none (.tmp 27), none⟩, ⟨some (29, false), .bin .sub (.tmp 23) (.tmp 28), none⟩, ⟨some (12, true), .mv (.tmp 29), none⟩] none
def F13Pb : ACode := .region [⟨some (30, false), .mv (.var 1), none⟩, ⟨some (31, false), .mv (.var 11), none⟩, ⟨some (32, false), .indexAddr 6 (.tmp 30) (.tmp 31), none⟩, ⟨some (33, false), .fieldAddr 1 (.tmp 32), none⟩, ⟨some (34, false), .load none (.tmp 33), none⟩, ⟨some (35, false), .call false (.func 35) [(.tmp 34)], none⟩, ⟨some (36, false), .mv (.var 2), none⟩, ⟨some (37, false), .nilEq 4 false (.tmp 35) (.tmp 36), none⟩, ⟨some (38, false), .mv (.tmp 37), none⟩, ⟨some (39, false), .mv (.var 3), some ((.tmp 38), true)⟩, ⟨some (40, false), .bin .geq (.tmp 39) (.const (.int .i64 0)), some ((.tmp 38), true)⟩, ⟨some (41, false), .pick (.tmp 38) (.tmp 40) (.const (.bool false)), none⟩, ⟨some (42, false), .mv (.tmp 41), none⟩, ⟨some (43, false), .mv (.var 12), some ((.tmp 42), true)⟩, ⟨some (44, false), .bin .geq (.tmp 43) (.const (.int .i64 0)), some ((.tmp 42), true)⟩, ⟨some (45, false), .pick (.tmp 42) (.tmp 44) (.const (.bool false)), none⟩, ⟨some (46, false), .mv (.tmp 45), none⟩, ⟨some (47, false), .mv (.var 12), some ((.tmp 46), true)⟩, ⟨some (48, false), .mv (.var 0), some ((.tmp 46), true)⟩, ⟨some (49, false), .mv (.var 1), some ((.tmp 46), true)⟩, ⟨some (50, false), .mv (.var 11), some ((.tmp 46), true)⟩, ⟨some (51, false), .indexAddr 6 (.tmp 49) (.tmp 50), some ((.tmp 46), true)⟩, ⟨some (52, false), .fieldAddr 2 (.tmp 51), some ((.tmp 46), true)⟩, ⟨some (53, false), .load none (.tmp 52), some ((.tmp 46), true)⟩, ⟨some (54, false), .call false (.func 36) [(.tmp 48), (.tmp 53)], some ((.tmp 46), true)⟩, ⟨some (55, false), .bin .lss (.tmp 47) (.tmp 54), some ((.tmp 46), true)⟩, ⟨some (56, true), .pick (.tmp 46) (.tmp 55) (.const (.bool false)), none⟩] none
def F13Pc : ACode := .cond (.var 56) (.seq (.region [⟨some (57, false), .mv (.var 11), none⟩, ⟨some (58, false), .mv (.var 0), none⟩, ⟨some (59, false), .mv (.var 1), none⟩, ⟨some (60, false), .mv (.var 11), none⟩, ⟨some (61, false), .indexAddr 6 (.tmp 59) (.tmp 60), none⟩, ⟨some (62, false), .fieldAddr 2 (.tmp 61), none⟩, ⟨some (63, false), .load none (.tmp 62), none⟩, ⟨some (64, false), .mv (.var 12), none⟩, ⟨some (65, false), .call false (.func 37) [(.tmp 58), (.tmp 63), (.tmp 64)], none⟩, ⟨some (8, true), .mv (.tmp 57), none⟩, ⟨some (9, true), .mv (.tmp 65), none⟩, ⟨some (10, true), .mv (.const (.bool true)), none⟩] none) (.ret)) (.skip)
theorem F13LB_parts : F13LB = .seq F13Pa (.seq F13Pb (F13Pc)) := rfl

/-- The table that the reference takes. -/
def hit2 (sizes : List Int) (strict : Bool) (cell : Int) (t : Tb) : Bool := decide (0 ≤ cell) && hit sizes strict cell t

set_option maxHeartbeats 2000000 in
theorem tt_b {sizes : List Int} {sv tv : V} {ts : List Tb} {strict : Bool} {cell : Int} {k : Nat} {t : Tb} {H : Heap} (hs : VI sv sizes) (ht : VT tv ts) (hV : Valid sizes ts) (hc : cell < 9223372036854775808) (hcm : -9223372036854775808 ≤ cell) (het : ts[k]? = some t) {st : St}
    (h1 : st.H = H) (h2 : st.low = H.length) (l0 : lookupE st.vE 0 = sv) (l1 : lookupE st.vE 1 = tv) (l2 : lookupE st.vE 2 = .bool strict) (l3 : lookupE st.vE 3 = .int .i64 cell) (l11 : lookupE st.vE 11 = .int .i64 k) :
    ∃ st', execL tab (.seq F13Pa F13Pb) st = some (.normal, st') ∧ st'.H = H ∧ st'.low = H.length ∧ lookupE st'.vE 0 = sv ∧ lookupE st'.vE 1 = tv ∧ lookupE st'.vE 2 = .bool strict ∧ lookupE st'.vE 3 = .int .i64 cell ∧ lookupE st'.vE 11 = .int .i64 k ∧
      lookupE st'.vE 56 = .bool (hit2 sizes strict cell t) ∧ (0 ≤ cell → lookupE st'.vE 12 = .int .i64 (cell - t.first)) := by
  have hto := ht.ok t (List.mem_of_getElem? het)
  have hg := ht.get het
  have hgc := hV.good het
  have cS := strict2_s t.kind H
  have cN := number_s hs hto.cols H
  rw [numR_wid hV.ok hgc] at cN
  unfold Ans at cS cN
  have hf := hV.end_le het
  have hsum := hV.sum_all (strictB t)
  have hwd := hV.widb het
  obtain ⟨s1, a1, a2, a3, a4, a5, a6, a7, a8, w, a9, a10⟩ : ∃ s1, execL tab F13Pa st = some (.normal, s1) ∧ s1.H = H ∧ s1.low = H.length ∧ lookupE s1.vE 0 = sv ∧ lookupE s1.vE 1 = tv ∧ lookupE s1.vE 2 = .bool strict ∧ lookupE s1.vE 3 = .int .i64 cell ∧ lookupE s1.vE 11 = .int .i64 k ∧ ∃ w, lookupE s1.vE 12 = .int .i64 w ∧ (0 ≤ cell → w = cell - t.first) := by
    refine ⟨_, by simp [F13Pa, callBody, zipE, execL_seq, execL_region, execL_cond, execL_skip, execL_ret, execL_exit, execL_block, execOps, wantedA, S_mv, S_pick, S_bin, S_un, S_call0, S_call1, S_extract, S_nilEq, S_load, S_alloc, Opd.ev, lookupE, lookE_setE, St.put, binA, unA, boolOf, freezeVs, freezeV, freeze1, isP, isPs, resultsA, resultA, finish, old, olds, flat, movedH_same, Nat.min_self, loadA, readCells, cellsV_int, h1, h2, l1, l3, l11, S_index, ht.sl, hg, S_fieldAddr, cellsV_tb, Tb.c5, Tb.e5, Tb.len]; rfl, ?_⟩
    refine ⟨by simp, by simp, by simp [lookE_setE, l0], by simp [lookE_setE, l1], by simp [lookE_setE, l2], by simp [lookE_setE, l3], by simp [lookE_setE, l11], IntKind.i64.wrap (cell - t.first), by simp [lookE_setE], fun h => ?_⟩
    rw [wrap_small] <;> omega
  rw [execL_seq, a1]
  simp only []
  have cS' : callL tab (.fn 35 [] []) [.int .i64 t.kind] H = some (.bool (strictB t), H, H.length) := cS
  have hcp := slE_isP hto.cols.sl
  have hsp := slE_isP hs.sl
  have fin : ∀ b, hit2 sizes strict cell t = b → (∃ st', execL tab F13Pb s1 = some (.normal, st') ∧ st'.H = H ∧ st'.low = H.length ∧ st'.vE = setE s1.vE 56 (.bool b)) → ∃ st', execL tab F13Pb s1 = some (.normal, st') ∧ st'.H = H ∧ st'.low = H.length ∧ lookupE st'.vE 0 = sv ∧ lookupE st'.vE 1 = tv ∧ lookupE st'.vE 2 = .bool strict ∧ lookupE st'.vE 3 = .int .i64 cell ∧ lookupE st'.vE 11 = .int .i64 k ∧ lookupE st'.vE 56 = .bool (hit2 sizes strict cell t) ∧ (0 ≤ cell → lookupE st'.vE 12 = .int .i64 (cell - t.first)) := by
    rintro b hb ⟨st', e1, e2, e3, e4⟩
    refine ⟨st', e1, e2, e3, ?_⟩
    rw [e4, hb]
    exact ⟨by simp [lookE_setE, a4], by simp [lookE_setE, a5], by simp [lookE_setE, a6], by simp [lookE_setE, a7], by simp [lookE_setE, a8], by simp [lookE_setE], fun h => by simp [lookE_setE, a9, a10 h]⟩
  by_cases hst : strictB t = strict
  · have hsb : (strictB t == strict) = true := by simp [hst]
    subst hst
    by_cases h0 : 0 ≤ cell
    · have hwe := a10 h0
      subst hwe
      by_cases h5 : t.first ≤ cell
      · by_cases h6 : cell - t.first < wid sizes t
        · exact fin true (by simp only [hit2, hit, h0, show 0 ≤ cell - t.first by omega, h6, decide_true, beq_self_eq_true, Bool.and_self]) ⟨_, by simp (maxSteps := 2000000) [F13Pb, callBody, zipE, execL_seq, execL_region, execL_cond, execL_skip, execL_ret, execL_exit, execL_block, execOps, wantedA, S_mv, S_pick, S_bin, S_un, S_call0, S_call1, S_extract, S_nilEq, S_load, S_alloc, Opd.ev, lookupE, lookE_setE, St.put, binA, unA, boolOf, freezeVs, freezeV, freeze1, isP, isPs, resultsA, resultA, finish, old, olds, flat, movedH_same, Nat.min_self, loadA, readCells, cellsV_int, a2, a3, a4, a5, a6, a7, a8, a9, S_index, ht.sl, hg, S_fieldAddr, cellsV_tb, Tb.c1, Tb.e1, Tb.c2, Tb.e2, Tb.len, cS', cN, nilEqA, h0, h5, h6, hcp, hsp]; rfl, by simp, by simp, by simp⟩
        · exact fin false (by simp [hit2, hit, h6]) ⟨_, by simp (maxSteps := 2000000) [F13Pb, callBody, zipE, execL_seq, execL_region, execL_cond, execL_skip, execL_ret, execL_exit, execL_block, execOps, wantedA, S_mv, S_pick, S_bin, S_un, S_call0, S_call1, S_extract, S_nilEq, S_load, S_alloc, Opd.ev, lookupE, lookE_setE, St.put, binA, unA, boolOf, freezeVs, freezeV, freeze1, isP, isPs, resultsA, resultA, finish, old, olds, flat, movedH_same, Nat.min_self, loadA, readCells, cellsV_int, a2, a3, a4, a5, a6, a7, a8, a9, S_index, ht.sl, hg, S_fieldAddr, cellsV_tb, Tb.c1, Tb.e1, Tb.c2, Tb.e2, Tb.len, cS', cN, nilEqA, h0, h5, h6, hcp, hsp]; rfl, by simp, by simp, by simp⟩
      · exact fin false (by simp [hit2, hit, h5]) ⟨_, by simp (maxSteps := 2000000) [F13Pb, callBody, zipE, execL_seq, execL_region, execL_cond, execL_skip, execL_ret, execL_exit, execL_block, execOps, wantedA, S_mv, S_pick, S_bin, S_un, S_call0, S_call1, S_extract, S_nilEq, S_load, S_alloc, Opd.ev, lookupE, lookE_setE, St.put, binA, unA, boolOf, freezeVs, freezeV, freeze1, isP, isPs, resultsA, resultA, finish, old, olds, flat, movedH_same, Nat.min_self, loadA, readCells, cellsV_int, a2, a3, a4, a5, a6, a7, a8, a9, S_index, ht.sl, hg, S_fieldAddr, cellsV_tb, Tb.c1, Tb.e1, Tb.c2, Tb.e2, Tb.len, cS', cN, nilEqA, h0, h5, hcp, hsp]; rfl, by simp, by simp, by simp⟩
    · exact fin false (by simp [hit2, h0]) ⟨_, by simp (maxSteps := 2000000) [F13Pb, callBody, zipE, execL_seq, execL_region, execL_cond, execL_skip, execL_ret, execL_exit, execL_block, execOps, wantedA, S_mv, S_pick, S_bin, S_un, S_call0, S_call1, S_extract, S_nilEq, S_load, S_alloc, Opd.ev, lookupE, lookE_setE, St.put, binA, unA, boolOf, freezeVs, freezeV, freeze1, isP, isPs, resultsA, resultA, finish, old, olds, flat, movedH_same, Nat.min_self, loadA, readCells, cellsV_int, a2, a3, a4, a5, a6, a7, a8, a9, S_index, ht.sl, hg, S_fieldAddr, cellsV_tb, Tb.c1, Tb.e1, Tb.c2, Tb.e2, Tb.len, cS', cN, nilEqA, h0, hcp, hsp]; rfl, by simp, by simp, by simp⟩
  · have hsb : (strictB t == strict) = false := by simp [hst]
    exact fin false (by simp [hit2, hit, hsb]) ⟨_, by simp (maxSteps := 2000000) [F13Pb, callBody, zipE, execL_seq, execL_region, execL_cond, execL_skip, execL_ret, execL_exit, execL_block, execOps, wantedA, S_mv, S_pick, S_bin, S_un, S_call0, S_call1, S_extract, S_nilEq, S_load, S_alloc, Opd.ev, lookupE, lookE_setE, St.put, binA, unA, boolOf, freezeVs, freezeV, freeze1, isP, isPs, resultsA, resultA, finish, old, olds, flat, movedH_same, Nat.min_self, loadA, readCells, cellsV_int, a2, a3, a4, a5, a6, a7, a8, a9, S_index, ht.sl, hg, S_fieldAddr, cellsV_tb, Tb.c1, Tb.e1, Tb.c2, Tb.e2, Tb.len, cS', cN, nilEqA, hsb, hcp, hsp]; rfl, by simp, by simp, by simp⟩

set_option maxHeartbeats 2000000 in
theorem tuple2_s {sizes : List Int} {sv tv : V} {ts : List Tb} {strict : Bool} {cell : Int} (hs : VI sv sizes) (ht : VT tv ts) (hnm : ∀ t ∈ ts, t.name.length ≤ 4096) (hc : cell < 9223372036854775808) (hcm : -9223372036854775808 ≤ cell) (H : Heap) :
    Ans (.fn 13 [] []) [sv, tv, .bool strict, .int .i64 cell] H (tupleR sizes ts strict cell) := by
  have hv := valid2_s hs ht hnm H
  unfold Ans at *
  rw [callL_fn, show tab 13 = some (.code F13) from rfl]
  unfold tupleR
  cases hV : validB sizes ts with
  | false =>
    rw [hV] at hv
    simp [F13, callBody, zipE, execL_seq, execL_region, execL_cond, execL_skip, execL_ret, execL_exit, execL_block, execOps, wantedA, S_mv, S_pick, S_bin, S_un, S_call0, S_call1, S_extract, S_nilEq, S_load, S_alloc, Opd.ev, lookupE, setE, St.put, binA, unA, boolOf, freezeVs, freezeV, freeze1, isP, isPs, resultsA, resultA, finish, old, olds, flat, movedH_same, Nat.min_self, loadA, readCells, cellsV_int, slE_isP hs.sl, slE_isP ht.sl, hv]
  | true =>
    rw [hV] at hv
    have hVd := valid_iff.1 hV
    have key := for_loop (tab := tab) (b := 20) (i := 11) (xs := 1) (t1 := 17) (t2 := 18) (t3 := 19) (t4 := 21) (t5 := 22) (blk := 1) (ex := 0) (es := 6) (body := F13LB)
      (I := fun k st => st.H = H ∧ st.low = H.length ∧ lookupE st.vE 0 = sv ∧ lookupE st.vE 1 = tv ∧ lookupE st.vE 2 = .bool strict ∧ lookupE st.vE 3 = .int .i64 cell ∧ lookupE st.vE 11 = .int .i64 k ∧ ∀ t ∈ ts.take k, hit2 sizes strict cell t = false)
      (Q := fun x st => st.H = H ∧ st.low = H.length ∧ ((x = .exit 0 ∧ ts.findIdx? (hit2 sizes strict cell) = none) ∨ (x = .ret ∧ ∃ k t, ts.findIdx? (hit2 sizes strict cell) = some k ∧ ts[k]? = some t ∧ lookupE st.vE 8 = .int .i64 k ∧ lookupE st.vE 9 = tupV (tupleOf (dimsOf sizes t.cl) (cell - t.first)) ∧ lookupE st.vE 10 = .bool true)))
      (N := ts.length) ht.lt (by decide) (by decide) (by decide)
      (fun k st h => ⟨h.2.2.2.2.2.2.1, by rw [h.2.2.2.1]; exact ht.sl, by rw [h.2.2.2.1]; exact ht.len, by rw [h.1, h.2.1]; exact Nat.le_refl _⟩)
      (by
        rintro k st hk ⟨q1, q2, q3, q4, q5, q6, q7, q8⟩
        obtain ⟨t, het⟩ : ∃ t, ts[k]? = some t := ⟨_, List.getElem?_eq_getElem hk⟩
        have hto := ht.ok t (List.mem_of_getElem? het)
        have hg := ht.get het
        obtain ⟨s1, a1, a2, a3, a4, a5, a6, a7, a8, a9, a10⟩ := tt_b (strict := strict) hs ht hVd hc hcm het (H := H) (st := { st with tE := [], vE := setE st.vE 20 (.bool true) }) q1 q2 (by simp [lookE_setE, q3]) (by simp [lookE_setE, q4]) (by simp [lookE_setE, q5]) (by simp [lookE_setE, q6]) (by simp [lookE_setE, q7])
        have chain : execL tab F13LB { st with tE := [], vE := setE st.vE 20 (.bool true) } = execL tab F13Pc s1 := by
          rw [execL_seq] at a1
          rw [F13LB_parts, execL_seq]
          cases e : execL tab F13Pa { st with tE := [], vE := setE st.vE 20 (.bool true) } with
          | none => rw [e] at a1; cases a1
          | some r =>
            obtain ⟨x, s⟩ := r
            rw [e] at a1
            cases x with
            | normal => simp only at a1 ⊢; rw [execL_seq, a1]
            | exit id => cases a1
            | ret => cases a1
        cases hh : hit2 sizes strict cell t with
        | false =>
          rw [hh] at a9
          refine ⟨.normal, s1, by rw [chain]; simp [F13Pc, callBody, zipE, execL_seq, execL_region, execL_cond, execL_skip, execL_ret, execL_exit, execL_block, execOps, wantedA, S_mv, S_pick, S_bin, S_un, S_call0, S_call1, S_extract, S_nilEq, S_load, S_alloc, Opd.ev, lookupE, lookE_setE, St.put, binA, unA, boolOf, freezeVs, freezeV, freeze1, isP, isPs, resultsA, resultA, finish, old, olds, flat, movedH_same, Nat.min_self, loadA, readCells, cellsV_int, a9], ?_⟩
          simp only [true_or, if_true]
          refine ⟨a8, by rw [a2, a3]; exact Nat.le_refl _, a2, a3, by simp [lookE_setE, a4], by simp [lookE_setE, a5], by simp [lookE_setE, a6], by simp [lookE_setE, a7], by simp [lookE_setE], fun u hu => ?_⟩
          rw [List.take_add_one, het] at hu
          simp at hu
          rcases hu with hu | rfl
          · exact q8 u hu
          · exact hh
        | true =>
          rw [hh] at a9
          have hh2 := hh
          simp only [hit2, hit, Bool.and_eq_true, decide_eq_true_eq] at hh
          have hgc := hVd.good het
          have hwd := hVd.widb het
          have cN := nth_s hs hto.cols hVd.ok hgc (k := cell - t.first) ⟨hh.2.1.2, by omega⟩ H
          unfold Ans at cN
          have hip := isP_tupV (tupleOf (dimsOf sizes t.cl) (cell - t.first))
          refine ⟨.ret, _, by rw [chain]; simp [F13Pc, callBody, zipE, execL_seq, execL_region, execL_cond, execL_skip, execL_ret, execL_exit, execL_block, execOps, wantedA, S_mv, S_pick, S_bin, S_un, S_call0, S_call1, S_extract, S_nilEq, S_load, S_alloc, Opd.ev, lookupE, lookE_setE, St.put, binA, unA, boolOf, freezeVs, freezeV, freeze1, isP, isPs, resultsA, resultA, finish, old, olds, flat, movedH_same, Nat.min_self, loadA, readCells, cellsV_int, a2, a3, a4, a5, a8, a9, a10 hh.1, S_index, ht.sl, hg, S_fieldAddr, cellsV_tb, Tb.c2, Tb.e2, Tb.len, slE_isP hto.cols.sl, slE_isP hs.sl, cN]; rfl, ?_⟩
          simp only [reduceCtorEq, or_self, if_false]
          refine ⟨by simp, by simp, .inr ⟨trivial, k, t, ?_, het, by simp [lookE_setE], by simp [lookE_setE], by simp [lookE_setE]⟩⟩
          rw [List.findIdx?_eq_some_iff_getElem]
          refine ⟨hk, ?_, fun j hj => ?_⟩
          · have : ts[k] = t := by rw [List.getElem?_eq_getElem hk] at het; exact Option.some.inj het
            rw [this]; exact hh2
          · have : ts[j] ∈ ts.take k := List.mem_take_iff_getElem.2 ⟨j, by omega, rfl⟩
            simp [q8 _ this])
      (by
        rintro st ⟨q1, q2, q3, q4, q5, q6, q7, q8⟩
        refine ⟨q1, q2, .inl ⟨rfl, ?_⟩⟩
        rw [List.findIdx?_eq_none_iff]
        rw [List.take_length] at q8
        exact q8)
    obtain ⟨x, st', r1, r2, r3, r4⟩ := key ts.length 0 { tE := [], vE := [(0, sv), (1, tv), (2, .bool strict), (3, .int .i64 cell), (8, .int .i64 0), (9, .nil0), (10, .bool false), (16, .bool false), (11, .int .i64 0)], H := H, low := H.length } (by omega) ⟨rfl, rfl, rfl, rfl, rfl, rfl, rfl, fun m hm => by simp at hm⟩
    rw [← F13L0_for] at r1
    by_cases h0 : cell < 0
    · have hno : ts.findIdx? (hit2 sizes strict cell) = none := by
        rw [List.findIdx?_eq_none_iff]
        intro t _
        have : ¬ 0 ≤ cell := by omega
        simp [hit2, this]
      rcases r4 with ⟨rfl, r4⟩ | ⟨rfl, k, t, r4, -⟩
      · simp [F13, callBody, zipE, execL_seq, execL_region, execL_cond, execL_skip, execL_ret, execL_exit, execL_block, execOps, wantedA, S_mv, S_pick, S_bin, S_un, S_call0, S_call1, S_extract, S_nilEq, S_load, S_alloc, Opd.ev, lookupE, setE, St.put, binA, unA, boolOf, freezeVs, freezeV, freeze1, isP, isPs, resultsA, resultA, finish, old, olds, flat, movedH_same, Nat.min_self, loadA, readCells, cellsV_int, slE_isP hs.sl, slE_isP ht.sl, hv, r1, r2, r3, h0, lookE_setE]
      · rw [hno] at r4; cases r4
    · have heq : hit2 sizes strict cell = hit sizes strict cell := by
        funext t
        have : 0 ≤ cell := by omega
        simp [hit2, this]
      rw [heq] at r4
      rcases r4 with ⟨rfl, r4⟩ | ⟨rfl, k, t, r4, r5, r6, r7, r8⟩
      · simp [F13, callBody, zipE, execL_seq, execL_region, execL_cond, execL_skip, execL_ret, execL_exit, execL_block, execOps, wantedA, S_mv, S_pick, S_bin, S_un, S_call0, S_call1, S_extract, S_nilEq, S_load, S_alloc, Opd.ev, lookupE, setE, St.put, binA, unA, boolOf, freezeVs, freezeV, freeze1, isP, isPs, resultsA, resultA, finish, old, olds, flat, movedH_same, Nat.min_self, loadA, readCells, cellsV_int, slE_isP hs.sl, slE_isP ht.sl, hv, r1, r2, r3, r4, h0, lookE_setE]
      · have hip := isP_tupV (tupleOf (dimsOf sizes t.cl) (cell - t.first))
        simp [F13, callBody, zipE, execL_seq, execL_region, execL_cond, execL_skip, execL_ret, execL_exit, execL_block, execOps, wantedA, S_mv, S_pick, S_bin, S_un, S_call0, S_call1, S_extract, S_nilEq, S_load, S_alloc, Opd.ev, lookupE, setE, St.put, binA, unA, boolOf, freezeVs, freezeV, freeze1, isP, isPs, resultsA, resultA, finish, old, olds, flat, movedH_same, Nat.min_self, loadA, readCells, cellsV_int, slE_isP hs.sl, slE_isP ht.sl, hv, r1, r2, r3, r4, r5, r6, r7, r8, h0, hip, lookE_setE]
end Go.Abs.T09
/- CellsNumbers answers true. -/
namespace Go.Abs.T09
open Go Go.Abs

theorem tupleR_shape (sizes : List Int) (ts : List Tb) (b : Bool) (c : Int) : ∃ (i : Int) (v : V) (l : List Int) (ok : Bool), tupleR sizes ts b c = .tup [.int .i64 i, v, .bool ok] ∧ VI v l := by
  have hnil : VI .nil0 [] := ⟨rfl, rfl, by decide⟩
  unfold tupleR
  split
  · exact ⟨0, .nil0, [], false, rfl, hnil⟩
  · rename_i hV
    split
    · exact ⟨0, .nil0, [], false, rfl, hnil⟩
    · rename_i i hi
      split
      · rename_i t ht
        refine ⟨i, _, tupleOf (dimsOf sizes t.cl) (c - t.first), true, rfl, tupV_VI ?_⟩
        have hV2 : validB sizes ts = true := by
          cases h : validB sizes ts with
          | true => rfl
          | false => simp [h] at hV
        have := (goodCols_in ((valid_iff.1 hV2).good ht)).1
        unfold tupleOf
        rw [dg_length]
        simp [dimsOf]
        omega
      · rename_i ht
        obtain ⟨h1, -, -⟩ := List.findIdx?_eq_some_iff_getElem.1 hi
        rw [List.getElem?_eq_getElem h1] at ht
        cases ht

theorem cellsV_bl (b : Bool) : cellsV (.bool b) = [.bool b] := rfl

set_option maxHeartbeats 2000000 in
theorem nb_round {sv tv uv : V} {sizes : List Int} {ts : List Tb} {cell : Int} {b : Bool} {k : Nat} {st : St} (hs : VI sv sizes) (ht : VT tv ts) (hnm : ∀ t ∈ ts, t.name.length ≤ 4096) (hc : cell < 9223372036854775808) (hcm : -9223372036854775808 ≤ cell)
    (h1 : st.H = []) (h2 : st.low = 0) (hk : ([V.bool true, .bool false] : List V)[k]? = some (.bool b)) (l0 : lookupE st.vE 0 = sv) (l1 : lookupE st.vE 1 = tv) (l4 : lookupE st.vE 4 = .int .i64 cell) (l58 : lookupE st.vE 58 = .list 1 [.bool true, .bool false]) (l60 : lookupE st.vE 60 = .int .i64 k) (l59 : lookupE st.vE 59 = .int .i64 (2 : Nat)) :
    ∃ st', execL tab F3L0 st = some (.normal, st') ∧ st'.H = [] ∧ st'.low = 0 ∧ lookupE st'.vE 0 = sv ∧ lookupE st'.vE 1 = tv ∧ lookupE st'.vE 4 = .int .i64 cell ∧ lookupE st'.vE 58 = .list 1 [.bool true, .bool false] ∧ lookupE st'.vE 60 = .int .i64 k ∧ lookupE st'.vE 59 = .int .i64 (2 : Nat) := by
  have hsp := slE_isP hs.sl
  have htp := slE_isP ht.sl
  obtain ⟨i, v, l, ok, hR, hvl⟩ := tupleR_shape sizes ts b cell
  have c1 := tuple_s (strict := b) hs ht hc []
  have c2 := tuple2_s (strict := b) hs ht hnm hc hcm []
  have c3 := ints_s hvl hvl []
  rw [hR] at c1 c2
  unfold Ans at c1 c2 c3
  simp only [List.length_nil, beq_self_eq_true] at c1 c2 c3
  have hvp := slE_isP hvl.sl
  have hne : ((i : Int) != i) = false := by simp
  refine ⟨_, by simp [F3L0, callBody, zipE, execL_seq, execL_region, execL_cond, execL_skip, execL_ret, execL_exit, execL_block, execOps, wantedA, S_mv, S_pick, S_bin, S_un, S_call0, S_call1, S_extract, S_nilEq, S_load, S_alloc, Opd.ev, lookupE, lookE_setE, St.put, binA, unA, boolOf, freezeVs, freezeV, freeze1, isP, isPs, resultsA, resultA, finish, old, olds, flat, movedH_same, Nat.min_self, loadA, readCells, cellsV_int, cellsV_bl, movedH, h1, h2, l0, l1, l4, l58, l60, S_index, slE, el, hk, c1, c2, c3, hsp, htp, hvp, hne, nilEqA]; rfl, ?_⟩
  exact ⟨by simp, by simp, by simp [lookE_setE, l0], by simp [lookE_setE, l1], by simp [lookE_setE, l4], by simp [lookE_setE, l58], by simp [lookE_setE, l60], by simp [lookE_setE, l59]⟩

set_option maxHeartbeats 2000000 in
theorem cellsNumbers_s {sv tv uv : V} {sizes tu : List Int} {ts : List Tb} {table cell : Int} (hs : VI sv sizes) (ht : VT tv ts) (hu : VI uv tu) (hc : cell < 9223372036854775808) (hcm : -9223372036854775808 ≤ cell) :
    callL tab (.fn 3 [] []) [sv, tv, .int .i64 table, uv, .int .i64 cell] [] = some (.bool true, [], 0) := by
  have haw := awake_s
  have hf := few_s hs ht []
  unfold Ans at hf
  simp only [List.length_nil] at hf
  have hsp := slE_isP hs.sl
  have htp := slE_isP ht.sl
  have hup := slE_isP hu.sl
  rw [callL_fn, show tab 3 = some (.code F3) from rfl]
  cases hF : fewB sizes ts with
  | false =>
    rw [hF] at hf
    simp [F3, callBody, zipE, execL_seq, execL_region, execL_cond, execL_skip, execL_ret, execL_exit, execL_block, execOps, wantedA, S_mv, S_pick, S_bin, S_un, S_call0, S_call1, S_extract, S_nilEq, S_load, S_alloc, Opd.ev, lookupE, setE, St.put, binA, unA, boolOf, freezeVs, freezeV, freeze1, isP, isPs, resultsA, resultA, finish, old, olds, flat, movedH_same, Nat.min_self, loadA, readCells, cellsV_int, haw, hf, hsp, htp]
  | true =>
    rw [hF] at hf
    by_cases h20 : (20 : Int) < (tu.length : Int)
    · simp [F3, callBody, zipE, execL_seq, execL_region, execL_cond, execL_skip, execL_ret, execL_exit, execL_block, execOps, wantedA, S_mv, S_pick, S_bin, S_un, S_call0, S_call1, S_extract, S_nilEq, S_load, S_alloc, Opd.ev, lookupE, setE, St.put, binA, unA, boolOf, freezeVs, freezeV, freeze1, isP, isPs, resultsA, resultA, finish, old, olds, flat, movedH_same, Nat.min_self, loadA, readCells, cellsV_int, haw, hf, hsp, htp, S_len 1, hu.sl, hu.len, h20]
    · have hnm : ∀ t ∈ ts, t.name.length ≤ 4096 := fun t htm => by
        unfold fewB at hF
        simp only [Bool.and_eq_true, List.all_eq_true] at hF
        have := hF.1 t htm
        simp only [fewT, Bool.and_eq_true, decide_eq_true_eq] at this
        omega
      have c1 := cell_s (table := table) hs ht hu []
      have c2 := cell2_s (table := table) hs ht hnm hu []
      unfold Ans at c1 c2
      simp only [List.length_nil] at c1 c2
      generalize cellR sizes ts table tu = r at *
      obtain ⟨r1, r2⟩ := r
      simp only at c1 c2
      have e1 : (r1 != r1) = false := by simp
      have e2 : (r2 != r2) = false := by simp
      have key := range_loop (tab := tab) (b := 61) (n := 59) (i := 60) (t := 96) (blk := 1) (ex := 0) (body := F3L0)
        (I := fun k s => s.H = [] ∧ s.low = 0 ∧ lookupE s.vE 0 = sv ∧ lookupE s.vE 1 = tv ∧ lookupE s.vE 4 = .int .i64 cell ∧ lookupE s.vE 58 = .list 1 [.bool true, .bool false] ∧ lookupE s.vE 60 = .int .i64 k ∧ lookupE s.vE 59 = .int .i64 (2 : Nat))
        (Q := fun x s => x = .exit 0 ∧ s.H = [] ∧ s.low = 0)
        (N := 2) (by decide) (by decide) (by decide)
        (fun k s h => ⟨h.2.2.2.2.2.2.1, h.2.2.2.2.2.2.2, by rw [h.1, h.2.1]; exact Nat.le_refl _⟩)
        (by
          rintro k s hk ⟨q1, q2, q3, q4, q5, q6, q7, q8⟩
          obtain ⟨b, hkb⟩ : ∃ b, ([V.bool true, .bool false] : List V)[k]? = some (.bool b) := by
            rcases (show k = 0 ∨ k = 1 by omega) with rfl | rfl
            · exact ⟨true, rfl⟩
            · exact ⟨false, rfl⟩
          obtain ⟨s1, a1, a2, a3, a4, a5, a6, a7, a8, a9⟩ := nb_round (uv := uv) (st := { s with tE := [], vE := setE s.vE 61 (.bool true) }) hs ht hnm hc hcm q1 q2 hkb (by simp [lookE_setE, q3]) (by simp [lookE_setE, q4]) (by simp [lookE_setE, q5]) (by simp [lookE_setE, q6]) (by simp [lookE_setE, q7]) (by simp [lookE_setE, q8])
          refine ⟨.normal, s1, a1, ?_⟩
          simp only [true_or, if_true]
          exact ⟨a8, by rw [a2, a3]; exact Nat.le_refl _, a2, a3, by simp [lookE_setE, a4], by simp [lookE_setE, a5], by simp [lookE_setE, a6], by simp [lookE_setE, a7], by simp [lookE_setE], by simp [lookE_setE, a9]⟩)
        (by rintro s ⟨q1, q2, -⟩; exact ⟨rfl, q1, q2⟩)
      obtain ⟨x, st', k1, rfl, k2, k3⟩ := key 2 0 { tE := [], vE := [(0, sv), (1, tv), (2, .int .i64 table), (3, uv), (4, .int .i64 cell), (10, .bool false), (24, .bool false), (33, .bool false), (11, .int .i64 r1), (12, .int .i64 r2), (13, .int .i64 r1), (14, .int .i64 r2), (57, .bool false), (58, .list 1 [.bool true, .bool false]), (59, .int .i64 2), (60, .int .i64 0)], H := [], low := 0 } (by omega) ⟨rfl, rfl, rfl, rfl, rfl, rfl, rfl, rfl⟩
      have hsl2 : slE 1 (V.list 1 [V.bool true, V.bool false]) = true := rfl
      have hel2 : el (V.list 1 [V.bool true, V.bool false]) = [V.bool true, V.bool false] := rfl
      simp [F3, callBody, zipE, execL_seq, execL_region, execL_cond, execL_skip, execL_ret, execL_exit, execL_block, execOps, wantedA, S_mv, S_pick, S_bin, S_un, S_call0, S_call1, S_extract, S_nilEq, S_load, S_alloc, Opd.ev, lookupE, setE, St.put, binA, unA, boolOf, freezeVs, freezeV, freeze1, isP, isPs, resultsA, resultA, finish, old, olds, flat, movedH_same, Nat.min_self, loadA, readCells, cellsV_int, haw, hf, hsp, htp, hup, S_len 1, hu.sl, hu.len, h20, c1, c2, e1, e2, S_lit, step, fillL, zeroElem, cellsOk, cellOk, cellsV_bl, hsl2, hel2, k1, k2, k3, lookE_setE]
end Go.Abs.T09
