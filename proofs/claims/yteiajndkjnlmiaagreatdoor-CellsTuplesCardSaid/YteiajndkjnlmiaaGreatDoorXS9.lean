/- CellsTuples answers true. -/
import Derived.Test.YteiajndkjnlmiaaGreatDoorXS8
import Derived.Test.YteiajndkjnlmiaaGreatDoorXT09B
set_option linter.unusedVariables false
set_option linter.unusedSimpArgs false
namespace Go.Abs.T09
open Go Go.Abs

theorem awake_s : callL tab (.fn 8 [] []) [] [] = some (.bool true, [], 0) := callL_iff.2 ⟨300, awake_all⟩

theorem tv_VI {t : List Int} (h : t.length ≤ 1000) : VI (tv t) t ∧ cellsV (tv t) = [tv t] := ⟨⟨rfl, rfl, by omega⟩, rfl⟩

/-- What cells.Tuples returns at good columns: as many tuples as there are, in order. -/
theorem tuples_all {sv cv : V} {sizes cols : List Int} (hs : VI sv sizes) (hc : VI cv cols) (h3 : cols.length ≤ 3) (hok : sizes.all okSize = true) (hcol : cols.any (badCol sizes) = false)
    (hb : ∀ k, k ≤ cols.length → 1 ≤ prodI ((dimsOf sizes cols).take k) ∧ prodI ((dimsOf sizes cols).take k) ≤ 216) :
    ∃ (W : Nat) (LL : List V), prodI (dimsOf sizes cols) = W ∧ 1 ≤ W ∧ W ≤ 216 ∧ Ans (.fn 17 [] []) [sv, cv] [] (.list 1 LL) ∧ LL.length = W ∧ (∀ c ∈ cols, 0 ≤ c ∧ c < sizes.length) ∧ (∀ d ∈ dimsOf sizes cols, 1 ≤ d ∧ d ≤ 6) ∧
      ∀ k, k < W → ∃ v, LL[k]? = some v ∧ VI v (tk (dimsOf sizes cols) k) ∧ cellsV v = [v] := by
  have hdl : (dimsOf sizes cols).length = cols.length := by simp [dimsOf]
  have hin : ∀ c ∈ cols, 0 ≤ c ∧ c < sizes.length := fun c hc' => by
    have := List.any_eq_false.1 hcol c hc'
    simp [badCol] at this; omega
  have hd : ∀ d ∈ dimsOf sizes cols, 1 ≤ d ∧ d ≤ 6 := fun d hd' => by
    obtain ⟨c, hcm, rfl⟩ := List.mem_map.1 hd'
    obtain ⟨c0, c1⟩ := hin c hcm
    obtain ⟨s, hsz⟩ : ∃ s, sizes[c.toNat]? = some s := ⟨_, List.getElem?_eq_getElem (by omega)⟩
    have := List.all_eq_true.1 hok s (List.mem_of_getElem? hsz)
    rw [hsz]; simpa [okSize] using this
  have hfull := hb cols.length (Nat.le_refl _)
  rw [List.take_of_length_le (by rw [hdl]; exact Nat.le_refl _)] at hfull
  obtain ⟨W, hW⟩ : ∃ W : Nat, prodI (dimsOf sizes cols) = W := ⟨(prodI (dimsOf sizes cols)).toNat, by omega⟩
  rw [hW] at hfull
  have hcol' : (decide (cols.length ≤ 3) && !cols.any (badCol sizes)) = true := by simp [hcol, h3]
  have hsz : (sizes.all fun n => decide (1 ≤ n) && decide (n ≤ 6)) = true := hok
  by_cases hne : cols = []
  · subst hne
    have hW1 : W = 1 := by have : prodI (dimsOf sizes []) = 1 := rfl
                           omega
    subst hW1
    refine ⟨1, [.emp], hW, by decide, by decide, tuples_emp hs hc hsz, rfl, hin, hd, fun k hk => ?_⟩
    have : k = 0 := by omega
    subst this
    exact ⟨.emp, rfl, ⟨rfl, rfl, by simp [tk, dimsOf]⟩, rfl⟩
  · refine ⟨W, Lk (dimsOf sizes cols) W, hW, by omega, by omega, tuples_good hs hc hcol' hsz hne hW (by omega) (by omega) (fun k hk => ?_) hin hd h3, by simp [Lk], hin, hd, fun k hk => ?_⟩
    · have := hb k hk; omega
    · refine ⟨tv (tk (dimsOf sizes cols) k), by simp [Lk, hk], ?_⟩
      exact tv_VI (by rw [(tk_inR (fun d h => (hd d h).1) k).1, hdl]; omega)

set_option maxHeartbeats 2000000 in
theorem cellsTuples_s {sv cv : V} {sizes cols : List Int} (hs : VI sv sizes) (hc : VI cv cols) : callL tab (.fn 7 [] []) [sv, cv] [] = some (.bool true, [], 0) := by
  have haw := awake_s
  rw [callL_fn, show tab 7 = some (.code F7) from rfl]
  by_cases h12 : (sizes.length : Int) > 12
  · have h12' : (12 : Int) < sizes.length := h12
    simp [F7, callBody, zipE, execL_seq, execL_region, execL_cond, execL_skip, execL_ret, execL_exit, execL_block, execOps, wantedA, S_mv, S_pick, S_bin, S_un, S_call0, S_call1, S_extract, S_nilEq, S_load, S_alloc, Opd.ev, lookupE, setE, St.put, binA, unA, boolOf, freezeVs, freezeV, freeze1, isP, isPs, resultsA, resultA, finish, old, olds, flat, movedH_same, Nat.min_self, loadA, readCells, cellsV_int, haw, S_len 1, hs.sl, hs.len, h12, h12']
  · have h12' : ¬ (12 : Int) < sizes.length := h12
    by_cases h3 : (cols.length : Int) > 3
    · have h3' : (3 : Int) < cols.length := h3
      simp [F7, callBody, zipE, execL_seq, execL_region, execL_cond, execL_skip, execL_ret, execL_exit, execL_block, execOps, wantedA, S_mv, S_pick, S_bin, S_un, S_call0, S_call1, S_extract, S_nilEq, S_load, S_alloc, Opd.ev, lookupE, setE, St.put, binA, unA, boolOf, freezeVs, freezeV, freeze1, isP, isPs, resultsA, resultA, finish, old, olds, flat, movedH_same, Nat.min_self, loadA, readCells, cellsV_int, haw, S_len 1, hs.sl, hs.len, hc.sl, hc.len, h12, h12', h3, h3']
    · have h3' : ¬ (3 : Int) < cols.length := h3
      obtain ⟨x1, s1, a1, a2, a3, a4⟩ := loop1_s hs hc (st := { tE := [], vE := [(0, sv), (1, cv), (4, .bool false), (16, .bool false), (24, .bool false), (5, .int .i64 1), (25, sv), (26, .int .i64 sizes.length), (27, .int .i64 0)], H := [], low := 0 }) rfl rfl rfl rfl rfl rfl rfl rfl
      rcases a4 with ⟨rfl, hok, b0, b1, b5⟩ | ⟨rfl, b4⟩
      · obtain ⟨x2, s2, c1, c2, c3, c4⟩ := loop2_s hs hc (by omega) hok (st := { tE := [], vE := setE (setE (setE s1.vE 43 cv) 44 (.int .i64 cols.length)) 45 (.int .i64 0), H := [], low := 0, ro := s1.ro }) (by simp [lookE_setE, b0]) (by simp [lookE_setE, b1]) (by simp [lookE_setE]) (by simp [lookE_setE]) (by simp [lookE_setE]) (by simp [lookE_setE, b5]) rfl rfl
        rcases c4 with ⟨rfl, hcol, d0, d1, d5, d6⟩ | ⟨rfl, d4⟩
        · obtain ⟨W, LL, hW, hW1, hW2, hans, hlen, hin, hd, hLL⟩ := tuples_all hs hc (by omega) hok hcol d6
          unfold Ans at hans
          simp only [List.length_nil] at hans
          rw [hW] at d5
          obtain ⟨s3, e1, e2, e3, e4, e5⟩ := loop3_s hs hc hin (fun d h => (hd d h).1) hW (by omega) (lv := .list 1 LL) rfl hlen hLL
            (st := { tE := [], vE := setE (setE (setE (setE s2.vE 10 (.list 1 LL)) 72 (.list 1 LL)) 73 (.int .i64 W)) 74 (.int .i64 0), H := [], low := 0, ro := s2.ro }) (by simp [lookE_setE, d0]) (by simp [lookE_setE, d1]) (by simp [lookE_setE]) (by simp [lookE_setE]) (by simp [lookE_setE]) (by simp [lookE_setE]) (by simp [lookE_setE, d5]) rfl rfl
          have hsl : slE 1 (V.list 1 LL) = true := rfl
          have hel : (el (V.list 1 LL)).length = W := hlen
          simp [F7, callBody, zipE, execL_seq, execL_region, execL_cond, execL_skip, execL_ret, execL_exit, execL_block, execOps, wantedA, S_mv, S_pick, S_bin, S_un, S_call0, S_call1, S_extract, S_nilEq, S_load, S_alloc, S_box, Opd.ev, lookupE, setE, St.put, binA, unA, boolOf, freezeVs, freezeV, freeze1, isP, isPs, resultsA, resultA, finish, old, olds, flat, movedH_same, Nat.min_self, loadA, readCells, cellsV, lookE_setE, haw, S_len 1, hs.sl, hs.len, hc.sl, hc.len, hs.isP, hc.isP, h12, h12', h3, h3', a1, a2, a3, b0, b1, b5, c1, c2, c3, d0, d1, d5, hans, hsl, hel, e1, e2, e3, e4, e5]
        · simp [F7, callBody, zipE, execL_seq, execL_region, execL_cond, execL_skip, execL_ret, execL_exit, execL_block, execOps, wantedA, S_mv, S_pick, S_bin, S_un, S_call0, S_call1, S_extract, S_nilEq, S_load, S_alloc, S_box, Opd.ev, lookupE, setE, St.put, binA, unA, boolOf, freezeVs, freezeV, freeze1, isP, isPs, resultsA, resultA, finish, old, olds, flat, movedH_same, Nat.min_self, loadA, readCells, cellsV, lookE_setE, haw, S_len 1, hs.sl, hs.len, hc.sl, hc.len, h12, h12', h3, h3', a1, a2, a3, b0, b1, b5, c1, c2, c3, d4]
      · simp [F7, callBody, zipE, execL_seq, execL_region, execL_cond, execL_skip, execL_ret, execL_exit, execL_block, execOps, wantedA, S_mv, S_pick, S_bin, S_un, S_call0, S_call1, S_extract, S_nilEq, S_load, S_alloc, S_box, Opd.ev, lookupE, setE, St.put, binA, unA, boolOf, freezeVs, freezeV, freeze1, isP, isPs, resultsA, resultA, finish, old, olds, flat, movedH_same, Nat.min_self, loadA, readCells, cellsV, lookE_setE, haw, S_len 1, hs.sl, hs.len, hc.sl, hc.len, h12, h12', h3, h3', a1, a2, a3, b4]
end Go.Abs.T09
