/- What the parts of cells.Tuples compute. -/
import Derived.Test.YteiajndkjnlmiaaGreatDoorXS2
set_option linter.unusedVariables false
set_option linter.unusedSimpArgs false
namespace Go.Abs.T09
open Go Go.Abs

theorem min_succ (n : Nat) : min n (n + 1) = n := Nat.min_eq_left (Nat.le_succ n)
theorem slE_cells {es : Nat} {v : V} (h : slE es v = true) : cellsV v = [v] ∧ cellsOk [v] = true := by cases v <;> simp_all [slE, cellsV, cellsOk, cellOk]

theorem cellsV_int (k : IntKind) (n : Int) : cellsV (.int k n) = [.int k n] := rfl

theorem S_box_sl {call : CallT} {ev : Opd → V} {H : Heap} {low es : Nat} {x : Opd} (h : slE es (ev x) = true) : stepC call ev H low (.box x) = some (.ptr H.length 0, H ++ [.cells [ev x]], low) := by
  rw [S_box, (slE_cells h).1, (slE_cells h).2]; rfl

theorem sized_s {sv : V} {sizes : List Int} {H : Heap} (hs : VI sv sizes) : Ans (.fn 39 [] []) [sv] H (.bool (sizes.all fun n => decide (1 ≤ n) && decide (n ≤ 6))) := by
  have hc := containsFunc_s (p := fun n => !(decide (1 ≤ n) && decide (n ≤ 6))) (i := 60) (fs := []) (cs := []) (H := H) hs (fun n _ => sized1_s n H)
  unfold Ans at hc ⊢
  rw [callL_fn, show tab 39 = some (.code F39) from rfl]
  have e : (sizes.all fun n => decide (1 ≤ n) && decide (n ≤ 6)) = !(sizes.any fun n => !(decide (1 ≤ n) && decide (n ≤ 6))) := by
    rw [List.all_eq_not_any_not]
  rw [e]
  simp [F39, callBody, zipE, execL_seq, execL_region, execL_cond, execL_skip, execL_ret, execL_exit, execL_block, execOps, wantedA, S_mv, S_pick, S_bin, S_un, S_call0, S_call1, S_extract, S_nilEq, S_load, S_alloc, S_box, Opd.ev, lookupE, setE, St.put, binA, unA, boolOf, freezeVs, freezeV, freeze1, isP, isPs, resultsA, resultA, finish, old, olds, flat, movedH_same, Nat.min_self, loadA, readCells, cellsV, hs.isP, hc]

def badCol (sizes : List Int) (c : Int) : Bool := decide (c < 0) || decide (c ≥ sizes.length)

theorem columned1_s {sv : V} {sizes : List Int} {H : Heap} {l : Nat} (hs : VI sv sizes) (hl : H[l]? = some (.cells [sv])) (c : Int) : Ans (.fn 61 [] [.ptr l 0]) [.int .i64 c] H (.bool (badCol sizes c)) := by
  unfold Ans badCol
  rw [callL_fn, show tab 61 = some (.code F61) from rfl]
  by_cases h : c < 0
  · simp [F61, callBody, zipE, execL_seq, execL_region, execL_cond, execL_skip, execL_ret, execL_exit, execL_block, execOps, wantedA, S_mv, S_pick, S_bin, S_un, S_call0, S_call1, S_extract, S_nilEq, S_load, S_alloc, S_box, Opd.ev, lookupE, setE, St.put, binA, unA, boolOf, freezeVs, freezeV, freeze1, isP, isPs, resultsA, resultA, finish, old, olds, flat, movedH_same, Nat.min_self, loadA, readCells, cellsV, hl, S_len 1, hs.sl, hs.len, h]
  · simp [F61, callBody, zipE, execL_seq, execL_region, execL_cond, execL_skip, execL_ret, execL_exit, execL_block, execOps, wantedA, S_mv, S_pick, S_bin, S_un, S_call0, S_call1, S_extract, S_nilEq, S_load, S_alloc, S_box, Opd.ev, lookupE, setE, St.put, binA, unA, boolOf, freezeVs, freezeV, freeze1, isP, isPs, resultsA, resultA, finish, old, olds, flat, movedH_same, Nat.min_self, loadA, readCells, cellsV, hl, S_len 1, hs.sl, hs.len, h]

theorem columned_s {sv cv : V} {sizes cols : List Int} {H : Heap} (hs : VI sv sizes) (hc : VI cv cols) : Ans (.fn 42 [] []) [sv, cv] H (.bool (decide (cols.length ≤ 3) && !cols.any (badCol sizes))) := by
  have hH : (H ++ [AObj.cells [sv]])[H.length]? = some (.cells [sv]) := by simp
  have hk := containsFunc_s (p := badCol sizes) (i := 61) (fs := []) (cs := [.ptr H.length 0]) (H := H ++ [.cells [sv]]) hc (fun c _ => columned1_s hs hH c)
  unfold Ans at hk ⊢
  rw [callL_fn, show tab 42 = some (.code F42) from rfl]
  simp only [List.length_append, List.length_cons, List.length_nil, Nat.zero_add] at hk
  by_cases h : cols.length ≤ 3
  · have h' : (cols.length : Int) ≤ 3 := by omega
    simp [F42, callBody, zipE, execL_seq, execL_region, execL_cond, execL_skip, execL_ret, execL_exit, execL_block, execOps, wantedA, S_mv, S_pick, S_bin, S_un, S_call0, S_call1, S_extract, S_nilEq, S_load, S_alloc, Opd.ev, lookupE, setE, St.put, binA, unA, boolOf, freezeVs, freezeV, freeze1, isP, isPs, resultsA, resultA, finish, old, olds, flat, movedH_same, Nat.min_self, loadA, readCells, cellsV_int, S_box_sl (es := 1), hs.sl, S_len 1, hc.sl, hc.len, h, h', S_mkFn, hc.isP, hk, min_succ]
  · have h' : ¬ (cols.length : Int) ≤ 3 := by omega
    simp [F42, callBody, zipE, execL_seq, execL_region, execL_cond, execL_skip, execL_ret, execL_exit, execL_block, execOps, wantedA, S_mv, S_pick, S_bin, S_un, S_call0, S_call1, S_extract, S_nilEq, S_load, S_alloc, Opd.ev, lookupE, setE, St.put, binA, unA, boolOf, freezeVs, freezeV, freeze1, isP, isPs, resultsA, resultA, finish, old, olds, flat, movedH_same, Nat.min_self, loadA, readCells, cellsV_int, S_box_sl (es := 1), hs.sl, S_len 1, hc.sl, hc.len, h, h', S_mkFn, hc.isP, hk, min_succ]

def dimsOf (sizes cols : List Int) : List Int := cols.map fun c => (sizes[c.toNat]?).getD 0
def prodI (l : List Int) : Int := l.foldl (· * ·) 1

theorem prodI_take {l : List Int} {k : Nat} {d : Int} (h : l[k]? = some d) : prodI (l.take (k + 1)) = prodI (l.take k) * d := by
  unfold prodI
  rw [List.take_add_one, h]
  simp

theorem width_s {sv cv : V} {sizes cols : List Int} {H : Heap} (hs : VI sv sizes) (hc : VI cv cols) (hin : ∀ c ∈ cols, 0 ≤ c ∧ c < sizes.length)
    (hb : ∀ k, k ≤ cols.length → 0 ≤ prodI ((dimsOf sizes cols).take k) ∧ prodI ((dimsOf sizes cols).take k) < 4611686018427387904) : Ans (.fn 34 [] []) [sv, cv] H (.int .i64 (prodI (dimsOf sizes cols))) := by
  unfold Ans
  have key := range_loop (tab := tab) (b := 11) (n := 9) (i := 10) (t := 20) (blk := 1) (ex := 0) (body := F34L0)
    (I := fun k st => st.H = H ∧ st.low = H.length ∧ lookupE st.vE 0 = sv ∧ lookupE st.vE 8 = cv ∧ lookupE st.vE 10 = .int .i64 k ∧ lookupE st.vE 9 = .int .i64 cols.length ∧ lookupE st.vE 5 = .int .i64 (prodI ((dimsOf sizes cols).take k)))
    (Q := fun x st => x = .exit 0 ∧ st.H = H ∧ st.low = H.length ∧ lookupE st.vE 5 = .int .i64 (prodI (dimsOf sizes cols)))
    (N := cols.length) hc.lt (by decide) (by decide)
    (fun k st h => ⟨h.2.2.2.2.1, h.2.2.2.2.2.1, by rw [h.1, h.2.1]; exact Nat.le_refl _⟩)
    (by
      rintro k st hk ⟨h1, h2, h3, h4, h5, h6, h7⟩
      obtain ⟨c, hcc⟩ : ∃ c, cols[k]? = some c := ⟨_, List.getElem?_eq_getElem hk⟩
      have hmem : c ∈ cols := List.mem_of_getElem? hcc
      obtain ⟨c0, c1⟩ := hin c hmem
      have hg := hc.get hcc
      have hlt : c.toNat < sizes.length := by omega
      obtain ⟨d, hd⟩ : ∃ d, sizes[c.toNat]? = some d := ⟨_, List.getElem?_eq_getElem hlt⟩
      have hgd := hs.get hd
      have hdim : (dimsOf sizes cols)[k]? = some d := by simp [dimsOf, hcc, hd]
      have hp := prodI_take hdim
      have hbk := hb (k + 1) (by omega)
      have hw : IntKind.i64.wrap (prodI ((dimsOf sizes cols).take k) * d) = prodI ((dimsOf sizes cols).take (k + 1)) := by rw [hp] at hbk ⊢; rw [wrap_small] <;> omega
      refine ⟨.normal, _, by simp [F34L0, callBody, zipE, execL_seq, execL_region, execL_cond, execL_skip, execL_ret, execL_exit, execL_block, execOps, wantedA, S_mv, S_pick, S_bin, S_un, S_call0, S_call1, S_extract, S_nilEq, S_load, S_alloc, S_box, Opd.ev, lookupE, lookE_setE, St.put, binA, unA, boolOf, freezeVs, freezeV, freeze1, isP, isPs, resultsA, resultA, finish, old, olds, flat, movedH_same, Nat.min_self, loadA, readCells, cellsV, h1, h2, h3, h4, h5, h6, h7, S_index, hc.sl, hs.sl, hg, natOf_nonneg _ c0, hgd, hw]; rfl, ?_⟩
      simp only [true_or, if_true, lookE_setE, h1, h2]
      exact ⟨by simp [h5], by simp, trivial, trivial, by simp [h3], by simp [h4], by simp, by simp [h6], by simp⟩)
    (by
      rintro st ⟨h1, h2, h3, h4, h5, h6, h7⟩
      refine ⟨rfl, h1, h2, ?_⟩
      rw [List.take_of_length_le (by simp [dimsOf])] at h7
      simp [lookE_setE, h7])
  obtain ⟨x, st', h1, rfl, h2, h3, h4⟩ := key cols.length 0 { tE := [], vE := [(0, sv), (1, cv), (4, .int .i64 0), (5, .int .i64 1), (8, cv), (9, .int .i64 cols.length), (10, .int .i64 0)], H := H, low := H.length } (by omega)
    ⟨rfl, rfl, rfl, rfl, rfl, rfl, rfl⟩
  rw [callL_fn, show tab 34 = some (.code F34) from rfl]
  simp [F34, callBody, zipE, execL_seq, execL_region, execL_cond, execL_skip, execL_ret, execL_exit, execL_block, execOps, wantedA, S_mv, S_pick, S_bin, S_un, S_call0, S_call1, S_extract, S_nilEq, S_load, S_alloc, S_box, Opd.ev, lookupE, setE, St.put, binA, unA, boolOf, freezeVs, freezeV, freeze1, isP, isPs, resultsA, resultA, finish, old, olds, flat, movedH_same, Nat.min_self, loadA, readCells, cellsV, S_len 1, hc.sl, hc.len, h1, h2, h3, h4, lookE_setE]

theorem clone_emp_s {H : Heap} : Ans (.fn 63 [] []) [.emp] H .emp := by
  unfold Ans
  rw [callL_fn, show tab 63 = some (.code F63) from rfl]
  simp [F63, callBody, zipE, execL_seq, execL_region, execL_cond, execL_skip, execL_ret, execL_exit, execL_block, execOps, wantedA, S_mv, S_pick, S_bin, S_un, S_call0, S_call1, S_extract, S_nilEq, S_load, S_alloc, S_box, Opd.ev, lookupE, setE, St.put, binA, unA, boolOf, freezeVs, freezeV, freeze1, isP, isPs, resultsA, resultA, finish, old, olds, flat, movedH_same, Nat.min_self, loadA, readCells, cellsV, nilEqA, S_lit, S_append, step, fillL, elems]

theorem isPs_ints (l : List Int) : isPs (l.map (V.int .i64)) = true := by induction l <;> simp_all [isPs, isP]
theorem freeze_ints (H : Heap) (low : Nat) (l : List Int) : freezeVs H low (l.map (V.int .i64)) = some (l.map (V.int .i64), H, low) := by induction l <;> simp_all [freezeVs, freezeV, isP]
theorem cellsOk_ints (l : List Int) : cellsOk ((l.map (V.int .i64)).flatMap cellsV) = true := by induction l <;> simp_all [cellsOk, cellOk, cellsV]

theorem cellsOk_ints2 (l : List Int) : cellsOk (l.map (V.int .i64)) = true := by induction l <;> simp_all [cellsOk, cellOk]

theorem clone_row_s {H : Heap} {l : Nat} {ds : List Int} (hl : H[l]? = some (.row 1 (ds.map (.int .i64)) false)) (hpos : ds ≠ []) (hlt : ds.length ≤ 1000) :
    Ans (.fn 63 [] []) [.sref l 1 0 ds.length ds.length] H (.list 1 (ds.map (.int .i64))) := by
  unfold Ans
  rw [callL_fn, show tab 63 = some (.code F63) from rfl]
  have hne : (ds.map (V.int .i64)).isEmpty = false := by cases ds <;> simp_all
  have hcap : ds.length * (8 + 1) ≤ 2 ^ 40 := by omega
  have hcap' : ds.length * 9 ≤ 1099511627776 := by omega
  have htk : List.take ds.length (ds.map (V.int .i64)) = ds.map (V.int .i64) := List.take_of_length_le (by simp)
  simp [F63, callBody, zipE, execL_seq, execL_region, execL_cond, execL_skip, execL_ret, execL_exit, execL_block, execOps, wantedA, S_mv, S_pick, S_bin, S_un, S_call0, S_call1, S_extract, S_nilEq, S_load, S_alloc, Opd.ev, lookupE, setE, St.put, binA, unA, boolOf, freezeVs, freezeV, freeze1, isP, isPs, resultsA, resultA, finish, old, olds, flat, movedH_same, Nat.min_self, loadA, readCells, cellsV_int, nilEqA, S_lit, S_append, step, fillL, elems, hl, freeze_ints, hne, hpos, cellsOk_ints, cellsOk_ints2, min_succ, hcap, hcap', isPs_ints, htk]

end Go.Abs.T09
