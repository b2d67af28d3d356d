/- cells.Tuples. -/
import Derived.Test.YteiajndkjnlmiaaGreatDoorXS5
set_option linter.unusedVariables false
set_option linter.unusedSimpArgs false
namespace Go.Abs.T09
open Go Go.Abs

def heapE (sv cv : V) (env : Env) : Heap := [.cells [.sref 4 1 0 1 1], .cells [sv], .cells [cv], loopO env, .row 1 [.emp] false]

set_option maxHeartbeats 1000000 in
theorem yield_emp {sv cv : V} {env : Env} (he : lookupE env 5 = .ptr 0 0) : callL tab (.yield 3) [.emp] [outC [], .cells [sv], .cells [cv], loopO env] = some (.bool true, heapE sv cv env, 0) := by
  rw [callL_yield]
  simp [heapE, outC, loopO, yieldBody, F17A0, F17B0, callBody, zipE, execL_seq, execL_region, execL_cond, execL_skip, execL_ret, execL_exit, execL_block, execOps, wantedA, S_mv, S_pick, S_bin, S_un, S_call0, S_call1, S_extract, S_nilEq, S_load, S_alloc, Opd.ev, lookupE, lookE_setE, St.put, binA, unA, boolOf, freezeVs, freezeV, freeze1, isP, isPs, resultsA, resultA, finish, old, olds, flat, movedH_same, Nat.min_self, loadA, readCells, cellsV_int, he, S_lit, S_append, S_store, step, storeA, fillL, elems, zeroElem, cellsV, cellOk, cellsOk, setCells, movedH]

set_option maxHeartbeats 1000000 in
theorem tuples1_emp {sv cv : V} {sizes : List Int} {env : Env} (hs : VI sv sizes) (hc : VI cv []) (he : lookupE env 5 = .ptr 0 0) :
    callL tab (.fn 62 [] [.ptr 2 0, .ptr 1 0]) [.yield 3] [outC [], .cells [sv], .cells [cv], loopO env] = some (.tup [], heapE sv cv env, 0) := by
  have hcl := clone_emp_s (H := [outC [], .cells [sv], .cells [cv], loopO env])
  unfold Ans at hcl
  have hy := yield_emp (sv := sv) (cv := cv) he
  have key := range_loop (tab := tab) (b := 13) (n := 11) (i := 12) (t := 47) (blk := 1) (ex := 0) (body := F62L1)
    (I := fun k st => st.H = (if k = 0 then [outC [], .cells [sv], .cells [cv], loopO env] else heapE sv cv env) ∧ st.low ≤ st.H.length ∧ lookupE st.vE 0 = .yield 3 ∧ lookupE st.vE 4 = .emp ∧
      lookupE st.vE 12 = .int .i64 k ∧ lookupE st.vE 11 = .int .i64 1 ∧ (0 < k → st.low = 0))
    (Q := fun x st => x = .exit 0 ∧ st.H = heapE sv cv env ∧ st.low = 0)
    (N := 1) (by decide) (by decide) (by decide)
    (fun k st h => ⟨h.2.2.2.2.1, h.2.2.2.2.2.1, h.2.1⟩)
    (by
      rintro k st hk ⟨q1, q2, q3, q4, q5, q6, -⟩
      have hk0 : k = 0 := by omega
      subst hk0
      simp only [if_true] at q1
      have hw : IntKind.i64.wrap (-1) = -1 := rfl
      have hin : ∀ st0 : St, lookupE st0.vE 5 = .int .i64 (-1) → st0.low = 0 → ∃ st', execL tab (.loop F62L0) st0 = some (.exit 2, st') ∧ st'.H = st0.H ∧ st'.low = 0 ∧ ∀ s, s ≠ 23 → lookupE st'.vE s = lookupE st0.vE s := fun st0 h5 hl => by
        rw [execL_loop]
        simp only [F62L0]
        refine ⟨_, by simp [callBody, zipE, execL_seq, execL_region, execL_cond, execL_skip, execL_ret, execL_exit, execL_block, execOps, wantedA, S_mv, S_pick, S_bin, S_un, S_call0, S_call1, S_extract, S_nilEq, S_load, S_alloc, Opd.ev, lookupE, lookE_setE, St.put, binA, unA, boolOf, freezeVs, freezeV, freeze1, isP, isPs, resultsA, resultA, finish, old, olds, flat, movedH_same, Nat.min_self, loadA, readCells, cellsV_int, h5]; rfl, ?_⟩
        simp only [lookE_setE]
        exact ⟨trivial, by omega, fun s a => by simp [a]⟩
      obtain ⟨st', r1, r2, r3, r4⟩ := hin { tE := [], vE := setE (setE (setE st.vE 13 (.bool true)) 18 (.bool false)) 5 (.int .i64 (-1)), H := heapE sv cv env, low := 0, ro := st.ro } (by simp [lookE_setE]) rfl
      have hlen : (heapE sv cv env).length = 5 := rfl
      have hlen4 : ([outC [], .cells [sv], .cells [cv], loopO env] : Heap).length = 4 := rfl
      rw [hlen4] at hcl
      refine ⟨.normal, st', by simp [F62L1, callBody, zipE, execL_seq, execL_region, execL_cond, execL_skip, execL_ret, execL_exit, execL_block, execOps, wantedA, S_mv, S_pick, S_bin, S_un, S_call0, S_call1, S_extract, S_nilEq, S_load, S_alloc, Opd.ev, lookupE, lookE_setE, St.put, binA, unA, boolOf, freezeVs, freezeV, freeze1, isP, isPs, resultsA, resultA, finish, old, olds, flat, movedH_same, Nat.min_self, loadA, readCells, cellsV_int, q1, q3, q4, hcl, hy, S_len 1, slE, el, hw, r1, hlen], ?_⟩
      simp only [true_or, if_true]
      refine ⟨by rw [r4 12 (by decide)]; simp [lookE_setE, q5], by rw [r3]; omega, by rw [r2]; rfl, by rw [r3]; exact Nat.zero_le _, ?_, ?_, ?_, ?_, fun _ => r3⟩
      · simp only [lookE_setE]; rw [r4 0 (by decide)]; simp [lookE_setE, q3]
      · simp only [lookE_setE]; rw [r4 4 (by decide)]; simp [lookE_setE, q4]
      · simp [lookE_setE]
      · simp only [lookE_setE]; rw [r4 11 (by decide)]; simp [lookE_setE, q6])
    (by
      rintro st ⟨q1, q2, q3, q4, q5, q6, q7⟩
      exact ⟨rfl, q1, q7 (by omega)⟩)
  have hwid := width_s (H := [outC [], .cells [sv], .cells [cv], loopO env]) hs hc (fun c h => by cases h) (by intro k hk; simp at hk; subst hk; simp [prodI])
  unfold Ans at hwid
  have hp : prodI (dimsOf sizes []) = 1 := rfl
  have hlen4 : ([outC [], .cells [sv], .cells [cv], loopO env] : Heap).length = 4 := rfl
  rw [hp, hlen4] at hwid
  obtain ⟨x, st', h1, rfl, h2, hlow⟩ := key 1 0 { tE := [], vE := [(0, .yield 3), (1, .ptr 2 0), (2, .ptr 1 0), (4, .emp), (11, .int .i64 1), (12, .int .i64 0)], H := [outC [], .cells [sv], .cells [cv], loopO env], low := 4 } (by omega)
    ⟨rfl, by simp, rfl, rfl, rfl, rfl, fun h => absurd h (by omega)⟩
  rw [callL_fn, show tab 62 = some (.code F62) from rfl]
  have hl0 : (el cv).length = 0 := hc.len
  simp [F62, callBody, zipE, execL_seq, execL_region, execL_cond, execL_skip, execL_ret, execL_exit, execL_block, execOps, wantedA, S_mv, S_pick, S_bin, S_un, S_call0, S_call1, S_extract, S_nilEq, S_load, S_alloc, Opd.ev, lookupE, setE, St.put, binA, unA, boolOf, freezeVs, freezeV, freeze1, isP, isPs, resultsA, resultA, finish, old, olds, flat, movedH_same, Nat.min_self, loadA, readCells, cellsV_int, S_len 1, hc.sl, hs.sl, hl0, S_mkSlice, step, slE_isP hs.sl, slE_isP hc.sl, hwid, h1, h2, hlow]

theorem tuples44_s {sv cv : V} (h1 : slE 1 sv = true) (h2 : slE 1 cv = true) : callL tab (.fn 44 [] []) [sv, cv] [.cells [.nil0]] = some (.fn 62 [] [.ptr 2 0, .ptr 1 0], [.cells [.nil0], .cells [sv], .cells [cv]], 1) := by
  rw [callL_fn, show tab 44 = some (.code F44) from rfl]
  simp [F44, callBody, zipE, execL_seq, execL_region, execL_cond, execL_skip, execL_ret, execL_exit, execL_block, execOps, wantedA, S_mv, S_pick, S_bin, S_un, S_call0, S_call1, S_extract, S_nilEq, S_load, S_alloc, Opd.ev, lookupE, setE, St.put, binA, unA, boolOf, freezeVs, freezeV, freeze1, isP, isPs, resultsA, resultA, finish, old, olds, flat, movedH_same, Nat.min_self, loadA, readCells, cellsV_int, S_box_sl (es := 1), h1, h2, S_mkFn, movedH]

theorem tuples_bad {sv cv : V} {sizes cols : List Int} (hs : VI sv sizes) (hc : VI cv cols)
    (hbad : (decide (cols.length ≤ 3) && !cols.any (badCol sizes)) = false ∨ (sizes.all fun n => decide (1 ≤ n) && decide (n ≤ 6)) = false) : Ans (.fn 17 [] []) [sv, cv] [] .nil0 := by
  have hcol := columned_s (H := []) hs hc
  have hsz := sized_s (H := []) hs
  unfold Ans at hcol hsz ⊢
  rw [callL_fn, show tab 17 = some (.code F17) from rfl]
  generalize hb1 : (decide (cols.length ≤ 3) && !cols.any (badCol sizes)) = b1 at *
  generalize hb2 : (sizes.all fun n => decide (1 ≤ n) && decide (n ≤ 6)) = b2 at *
  simp only [List.length_nil] at hcol hsz
  cases b1 with
  | false => simp [F17, callBody, zipE, execL_seq, execL_region, execL_cond, execL_skip, execL_ret, execL_exit, execL_block, execOps, wantedA, S_mv, S_pick, S_bin, S_un, S_call0, S_call1, S_extract, S_nilEq, S_load, S_alloc, Opd.ev, lookupE, setE, St.put, binA, unA, boolOf, freezeVs, freezeV, freeze1, isP, isPs, resultsA, resultA, finish, old, olds, flat, movedH_same, Nat.min_self, loadA, readCells, cellsV_int, slE_isP hs.sl, slE_isP hc.sl, hcol]
  | true =>
    have : b2 = false := by simpa using hbad
    subst this
    simp [F17, callBody, zipE, execL_seq, execL_region, execL_cond, execL_skip, execL_ret, execL_exit, execL_block, execOps, wantedA, S_mv, S_pick, S_bin, S_un, S_call0, S_call1, S_extract, S_nilEq, S_load, S_alloc, Opd.ev, lookupE, setE, St.put, binA, unA, boolOf, freezeVs, freezeV, freeze1, isP, isPs, resultsA, resultA, finish, old, olds, flat, movedH_same, Nat.min_self, loadA, readCells, cellsV_int, slE_isP hs.sl, slE_isP hc.sl, hcol, hsz]

theorem Lk_isPs (ds : List Int) (k : Nat) : isPs (Lk ds k) = true := by
  unfold Lk
  generalize List.range k = l
  induction l with
  | nil => rfl
  | cons a l ih => simp only [List.map_cons, isPs, ih, Bool.and_true]; rfl

set_option maxHeartbeats 1000000 in
theorem tuples_good {sv cv : V} {sizes cols : List Int} (hs : VI sv sizes) (hc : VI cv cols) (hcol : (decide (cols.length ≤ 3) && !cols.any (badCol sizes)) = true) (hsz : (sizes.all fun n => decide (1 ≤ n) && decide (n ≤ 6)) = true)
    (hne : cols ≠ []) {W : Nat} (hW : prodI (dimsOf sizes cols) = W) (hW1 : W ≤ 1000) (hW0 : 1 ≤ W)
    (hb : ∀ k, k ≤ cols.length → 0 ≤ prodI ((dimsOf sizes cols).take k) ∧ prodI ((dimsOf sizes cols).take k) < 4611686018427387904)
    (hin : ∀ c ∈ cols, 0 ≤ c ∧ c < sizes.length) (hd : ∀ d ∈ dimsOf sizes cols, 1 ≤ d ∧ d ≤ 6) (h3 : cols.length ≤ 3) :
    Ans (.fn 17 [] []) [sv, cv] [] (.list 1 (Lk (dimsOf sizes cols) W)) := by
  have hcol' := columned_s (H := []) hs hc
  have hsz' := sized_s (H := []) hs
  have h44 := tuples44_s hs.sl hc.sl
  obtain ⟨low', h62⟩ := tuples1_s (env := [(0, sv), (1, cv), (4, .nil0), (15, .bool false), (5, .ptr 0 0), (18, .fn 62 [] [.ptr 2 0, .ptr 1 0])]) hs hc hin hd hne h3 rfl hW hW1 hW0 hb
  unfold Ans at hcol' hsz' ⊢
  rw [hcol] at hcol'; rw [hsz] at hsz'
  simp only [List.length_nil] at hcol' hsz'
  rw [callL_fn, show tab 17 = some (.code F17) from rfl]
  have hWne : Lk (dimsOf sizes cols) W ≠ [] := by intro e; have := congrArg List.length e; simp [Lk] at this; omega
  have hWl : (Lk (dimsOf sizes cols) W).length = W := by simp [Lk]
  have htk : List.take W (Lk (dimsOf sizes cols) W) = Lk (dimsOf sizes cols) W := List.take_of_length_le (by rw [hWl]; exact Nat.le_refl _)
  simp only [outC, loopO, if_true] at h62
  simp [F17, callBody, zipE, execL_seq, execL_region, execL_cond, execL_skip, execL_ret, execL_exit, execL_block, execOps, wantedA, S_mv, S_pick, S_bin, S_un, S_call0, S_call1, S_extract, S_nilEq, S_load, S_alloc, Opd.ev, lookupE, setE, St.put, binA, unA, boolOf, freezeVs, freezeV, freeze1, isP, isPs, resultsA, resultA, finish, old, olds, flat, movedH_same, Nat.min_self, loadA, readCells, cellsV_int, slE_isP hs.sl, slE_isP hc.sl, hcol', hsz', h44, execL_range, roOk, isFn, h62, heapS, outC, loopO, outRow, rowI, hWne, hWl, htk, Lk_isPs]

set_option maxHeartbeats 1000000 in
theorem tuples_emp {sv cv : V} {sizes : List Int} (hs : VI sv sizes) (hc : VI cv []) (hsz : (sizes.all fun n => decide (1 ≤ n) && decide (n ≤ 6)) = true) :
    Ans (.fn 17 [] []) [sv, cv] [] (.list 1 [.emp]) := by
  have hcol' := columned_s (H := []) hs hc
  have hsz' := sized_s (H := []) hs
  have h44 := tuples44_s hs.sl hc.sl
  have h62 := tuples1_emp (env := [(0, sv), (1, cv), (4, .nil0), (15, .bool false), (5, .ptr 0 0), (18, .fn 62 [] [.ptr 2 0, .ptr 1 0])]) hs hc rfl
  unfold Ans at hcol' hsz' ⊢
  rw [hsz] at hsz'
  have hcol : (decide (([] : List Int).length ≤ 3) && !([] : List Int).any (badCol sizes)) = true := rfl
  rw [hcol] at hcol'
  simp only [List.length_nil] at hcol' hsz'
  rw [callL_fn, show tab 17 = some (.code F17) from rfl]
  simp only [outC, loopO, if_true] at h62
  simp [F17, callBody, zipE, execL_seq, execL_region, execL_cond, execL_skip, execL_ret, execL_exit, execL_block, execOps, wantedA, S_mv, S_pick, S_bin, S_un, S_call0, S_call1, S_extract, S_nilEq, S_load, S_alloc, Opd.ev, lookupE, setE, St.put, binA, unA, boolOf, freezeVs, freezeV, freeze1, isP, isPs, resultsA, resultA, finish, old, olds, flat, movedH_same, Nat.min_self, loadA, readCells, cellsV_int, slE_isP hs.sl, slE_isP hc.sl, hcol', hsz', h44, execL_range, roOk, isFn, h62, heapE, loopO]
end Go.Abs.T09
