/- A round of cells.Tuples, above any heap. -/
import Derived.Test.YteiajndkjnlmiaaGreatDoorP08
import Derived.Test.YteiajndkjnlmiaaGreatDoorP06
import Derived.Test.YteiajndkjnlmiaaGreatDoorP07
set_option linter.unusedVariables false
set_option linter.unusedSimpArgs false
namespace Go.Abs.T09
open Go Go.Abs

def outCg (n : Nat) (L : List V) : AObj := .cells [if L = [] then .nil0 else .sref (n + 5) 1 0 L.length L.length]
def heapT (n : Nat) (sv cv : V) (env : Env) (t : List Int) (L : List V) : Heap := outCg n L :: .cells [sv] :: .cells [cv] :: loopO env :: rowI t :: outRow L

set_option maxHeartbeats 1000000 in
theorem yield_step_g {sv cv : V} {env : Env} {t : List Int} {L : List V} {tv : V} (H : Heap) (he : lookupE env 5 = .ptr H.length 0) (hL : L.length ≤ 1000) (htp : isP tv = true) (htc : cellsV tv = [tv]) (hto : cellOk tv = true) :
    callL tab (.yield (H.length + 3)) [tv] (H ++ heapT H.length sv cv env t L) = some (.bool true, H ++ heapT H.length sv cv env t (L ++ [tv]), H.length) := by
  rw [callL_yield]
  by_cases hE : L = []
  · subst hE
    simp [heapT, outCg, outRow, loopO, yieldBody, F17A0, F17B0, callBody, zipE, execL_seq, execL_region, execL_cond, execL_skip, execL_ret, execL_exit, execL_block, execOps, wantedA, S_mv, S_pick, S_bin, S_un, S_call0, S_call1, S_extract, S_nilEq, S_load, S_alloc, Opd.ev, lookupE, lookE_setE, St.put, binA, unA, boolOf, freezeVs, freezeV, freeze1, isP, isPs, resultsA, resultA, finish, old, olds, flat, movedH_same, Nat.min_self, loadA, readCells, cellsV_int, he, S_lit, S_append, S_store, step, storeA, fillL, elems, zeroElem, htp, htc, hto, cellsOk, cellOk_sref, cellsV_sref, setCells, movedH, rowI, get_off, get_off0, set_off, set_off0]
  · have hcap : (L.length + 1) * 25 ≤ 1099511627776 := by omega
    simp [heapT, outCg, outRow, loopO, yieldBody, F17A0, F17B0, callBody, zipE, execL_seq, execL_region, execL_cond, execL_skip, execL_ret, execL_exit, execL_block, execOps, wantedA, S_mv, S_pick, S_bin, S_un, S_call0, S_call1, S_extract, S_nilEq, S_load, S_alloc, Opd.ev, lookupE, lookE_setE, St.put, binA, unA, boolOf, freezeVs, freezeV, freeze1, isP, isPs, resultsA, resultA, finish, old, olds, flat, movedH_same, Nat.min_self, loadA, readCells, cellsV_int, he, S_lit, S_append, S_store, step, storeA, fillL, elems, zeroElem, htp, htc, hto, hE, hcap, cellsOk, cellOk_sref, cellsV_sref, setCells, movedH, rowI, get_off, get_off0, set_off, set_off0]

set_option maxHeartbeats 1000000 in
theorem tuples1_g {sv cv : V} {sizes cols : List Int} {env : Env} (H : Heap) (hs : VI sv sizes) (hc : VI cv cols) (hin : ∀ c ∈ cols, 0 ≤ c ∧ c < sizes.length) (hd : ∀ d ∈ dimsOf sizes cols, 1 ≤ d ∧ d ≤ 6) (hne : cols ≠ []) (h3 : cols.length ≤ 3)
    (he : lookupE env 5 = .ptr H.length 0) {W : Nat} (hW : prodI (dimsOf sizes cols) = W) (hW1 : W ≤ 1000) (hW0 : 1 ≤ W)
    (hb : ∀ k, k ≤ cols.length → 0 ≤ prodI ((dimsOf sizes cols).take k) ∧ prodI ((dimsOf sizes cols).take k) < 4611686018427387904) :
    callL tab (.fn 62 [] [.ptr (H.length + 2) 0, .ptr (H.length + 1) 0]) [.yield (H.length + 3)] (H ++ [outCg H.length [], .cells [sv], .cells [cv], loopO env]) = some (.tup [], H ++ heapT H.length sv cv env (tk (dimsOf sizes cols) W) (Lk (dimsOf sizes cols) W), H.length) := by
  generalize hds : dimsOf sizes cols = ds at *
  have hdl : ds.length = cols.length := by rw [← hds]; simp [dimsOf]
  have hpos : 0 < cols.length := List.length_pos_iff.2 hne
  have key := range_loop (tab := tab) (b := 13) (n := 11) (i := 12) (t := 47) (blk := 1) (ex := 0) (body := F62L1)
    (I := fun k st => st.H = H ++ heapT H.length sv cv env (tk ds k) (Lk ds k) ∧ st.low ≤ st.H.length ∧ lookupE st.vE 0 = .yield (H.length + 3) ∧ lookupE st.vE 1 = .ptr (H.length + 2) 0 ∧ lookupE st.vE 2 = .ptr (H.length + 1) 0 ∧ lookupE st.vE 4 = .sref (H.length + 4) 1 0 cols.length cols.length ∧
      lookupE st.vE 12 = .int .i64 k ∧ lookupE st.vE 11 = .int .i64 W ∧ (H.length ≤ st.low ∧ (0 < k → st.low ≤ H.length)))
    (Q := fun x st => x = .exit 0 ∧ st.H = H ++ heapT H.length sv cv env (tk ds W) (Lk ds W) ∧ st.low = H.length)
    (N := W) (by omega) (by decide) (by decide)
    (fun k st h => ⟨h.2.2.2.2.2.2.1, h.2.2.2.2.2.2.2.1, h.2.1⟩)
    (by
      rintro k st hk ⟨q1, q2, q3, q4, q5, q6, q7, q8, q9, -⟩
      have hlen : (tk ds k).length = cols.length := (tk_inR (fun d h => (hd d h).1) k).1.trans hdl
      have h4 : (H ++ heapT H.length sv cv env (tk ds k) (Lk ds k))[H.length + 4]? = some (.row 1 ((tk ds k).map (.int .i64)) false) := by rw [get_off]; rfl
      have hcl := clone_row_s (ds := tk ds k) h4 (by intro e; rw [e] at hlen; simp at hlen; omega) (by omega)
      unfold Ans at hcl
      rw [hlen] at hcl
      have hy := yield_step_g (H := H) (sv := sv) (cv := cv) (env := env) (t := tk ds k) (L := Lk ds k) (tv := tv (tk ds k)) he (by simp [Lk]; omega) rfl rfl rfl
      have hL : Lk ds k ++ [tv (tk ds k)] = Lk ds (k + 1) := by simp [Lk, List.range_succ]
      rw [hL] at hy
      simp only [tv] at hy
      have h4' : (H ++ heapT H.length sv cv env (tk ds k) (Lk ds (k + 1)))[H.length + 4]? = some (.row 1 ((tk ds k).map (.int .i64)) false) := by rw [get_off]; rfl
      have hll : ∀ L, heapT H.length sv cv env (tk ds k) L ≠ [] := fun L => by simp [heapT]
      have hw : IntKind.i64.wrap ((cols.length : Int) - 1) = (cols.length : Int) - 1 := by rw [wrap_small] <;> omega
      -- up to the inner loop
      obtain ⟨st1, a1, a2, a3, a4, a5⟩ := inc_loop_g (H := H) hs hc hin rfl (o0 := outCg H.length (Lk ds (k + 1))) (o3 := loopO env) (B := outRow (Lk ds (k + 1))) cols.length (tk ds k)
        { tE := [], vE := setE (setE (setE st.vE 13 (.bool true)) 18 (.bool false)) 5 (.int .i64 ((cols.length : Int) - 1)), H := H ++ heapT H.length sv cv env (tk ds k) (Lk ds (k + 1)), low := H.length, ro := st.ro } hlen (Nat.le_refl _) (tk_bound hd k) rfl ⟨by simp, Nat.le_refl _⟩
        (by simp [lookE_setE, q6]) (by simp [lookE_setE]) (by simp [lookE_setE, q5]) (by simp [lookE_setE, q4])
      have alow := execL_low a1 (by simp)
      have hcond : ∀ L, ¬ (H.length + (heapT H.length sv cv env (tk ds k) L).length ≤ H.length) := fun L => by simp [heapT]
      have hmn : ∀ a, min H.length (H.length + a) = H.length := fun a => Nat.min_eq_left (by omega)
      have hmn2 : ∀ a, min (H.length + a) H.length = H.length := fun a => Nat.min_eq_right (by omega)
      have hmn3 : min st.low H.length = H.length := by omega
      refine ⟨.normal, st1, by simp [F62L1, callBody, zipE, execL_seq, execL_region, execL_cond, execL_skip, execL_ret, execL_exit, execL_block, execOps, wantedA, S_mv, S_pick, S_bin, S_un, S_call0, S_call1, S_extract, S_nilEq, S_load, S_alloc, Opd.ev, lookupE, lookE_setE, St.put, binA, unA, boolOf, freezeVs, freezeV, freeze1, isP, isPs, resultsA, resultA, finish, old, olds, flat, movedH_same, Nat.min_self, loadA, readCells, cellsV_int, q1, q3, q6, hcl, hy, hcond, S_lenR, isRow, h4', hlen, hw, a1, hmn, hmn2, hmn3], ?_⟩
      simp only [true_or, if_true]
      have hnext : st1.H = H ++ heapT H.length sv cv env (tk ds (k + 1)) (Lk ds (k + 1)) := by
        rw [a2, hds]
        simp only [tk, hdl]
        rfl
      refine ⟨by rw [a5 12 (by decide) (by decide) (by decide)]; simp [lookE_setE, q7], a3.1, hnext, by exact a3.1, ?_, ?_, ?_, ?_, ?_, ?_, a3.2, fun _ => alow⟩
      · simp only [lookE_setE]; rw [a5 0 (by decide) (by decide) (by decide)]; simp [lookE_setE, q3]
      · simp only [lookE_setE]; rw [a5 1 (by decide) (by decide) (by decide)]; simp [lookE_setE, q4]
      · simp only [lookE_setE]; rw [a5 2 (by decide) (by decide) (by decide)]; simp [lookE_setE, q5]
      · simp only [lookE_setE]; rw [a5 4 (by decide) (by decide) (by decide)]; simp [lookE_setE, q6]
      · simp [lookE_setE]
      · simp only [lookE_setE]; rw [a5 11 (by decide) (by decide) (by decide)]; simp [lookE_setE, q8])
    (by
      rintro st ⟨q1, q2, q3, q4, q5, q6, q7, q8, q9⟩
      exact ⟨rfl, q1, by have := q9.1; have := q9.2 (by omega); show st.low = H.length; omega⟩)
  have hwid := width_s (H := H ++ heapT H.length sv cv env (tk ds 0) []) hs hc hin (by rw [hds]; exact hb)
  unfold Ans at hwid
  rw [hds, hW] at hwid
  have hwid5 : callL tab (.fn 34 [] []) [sv, cv] (H ++ heapT H.length sv cv env (tk ds 0) []) = some (.int .i64 W, H ++ heapT H.length sv cv env (tk ds 0) [], H.length + 5) := by rw [hwid]; simp [heapT, outRow]
  have hheap : H ++ [outCg H.length [], .cells [sv], .cells [cv], loopO env, AObj.row 1 (List.replicate cols.length (V.int .i64 0)) false] = H ++ heapT H.length sv cv env (tk ds 0) [] := by
    simp [heapT, outRow, rowI, tk, hdl]
  obtain ⟨x, st', h1, rfl, h2, hlow⟩ := key W 0 { tE := [], vE := [(0, .yield (H.length + 3)), (1, .ptr (H.length + 2) 0), (2, .ptr (H.length + 1) 0), (4, .sref (H.length + 4) 1 0 cols.length cols.length), (11, .int .i64 W), (12, .int .i64 0)], H := H ++ heapT H.length sv cv env (tk ds 0) [], low := H.length + 4 } (by omega)
    ⟨rfl, by simp [heapT], rfl, rfl, rfl, rfl, rfl, rfl, by simp, fun h => absurd h (by omega)⟩
  rw [callL_fn, show tab 62 = some (.code F62) from rfl]
  have hcap : (cols.length : Int) * 9 ≤ 1099511627776 := by omega
  have hnz : (cols.length : Int) ≠ 0 := by omega
  have hnz' : cols.length ≠ 0 := by omega
  have hnn : (0 : Int) ≤ (cols.length : Int) := by omega
  have g1 : (H ++ heapT H.length sv cv env (tk ds 0) [])[H.length + 1]? = some (.cells [sv]) := by rw [get_off]; rfl
  have g2 : (H ++ heapT H.length sv cv env (tk ds 0) [])[H.length + 2]? = some (.cells [cv]) := by rw [get_off]; rfl
  have t1 : (heapT H.length sv cv env (tk ds 0) [])[1]? = some (.cells [sv]) := rfl
  have t2 : (heapT H.length sv cv env (tk ds 0) [])[2]? = some (.cells [cv]) := rfl
  have t1E : ∀ h : 1 < (heapT H.length sv cv env (tk ds 0) []).length, (heapT H.length sv cv env (tk ds 0) [])[1]'h = .cells [sv] := fun _ => rfl
  have t2E : ∀ h : 2 < (heapT H.length sv cv env (tk ds 0) []).length, (heapT H.length sv cv env (tk ds 0) [])[2]'h = .cells [cv] := fun _ => rfl
  have gl : (H ++ heapT H.length sv cv env (tk ds 0) []).length = H.length + 5 := by simp [heapT, outRow]
  simp [F62, callBody, zipE, execL_seq, execL_region, execL_cond, execL_skip, execL_ret, execL_exit, execL_block, execOps, wantedA, S_mv, S_pick, S_bin, S_un, S_call0, S_call1, S_extract, S_nilEq, S_load, S_alloc, Opd.ev, lookupE, setE, St.put, binA, unA, boolOf, freezeVs, freezeV, freeze1, isP, isPs, resultsA, resultA, finish, old, olds, flat, movedH_same, Nat.min_self, loadA, readCells, cellsV_int, S_len 1, hc.sl, hs.sl, hc.len, S_mkSlice, step, hcap, hnz, hnz', hne, hnn, zeroElem, hheap, slE_isP hs.sl, slE_isP hc.sl, t1, t2, t1E, t2E, gl, hwid5, h1, h2, hlow, get_off, get_off0]
end Go.Abs.T09
/- cells.Tuples, above any heap. -/
namespace Go.Abs.T09
open Go Go.Abs

def heapEg (n : Nat) (sv cv : V) (env : Env) : Heap := [.cells [.sref (n + 4) 1 0 1 1], .cells [sv], .cells [cv], loopO env, .row 1 [.emp] false]

set_option maxHeartbeats 1000000 in
theorem yield_emp_g {sv cv : V} {env : Env} {H : Heap} (he : lookupE env 5 = .ptr H.length 0) : callL tab (.yield (H.length + 3)) [.emp] (H ++ [outCg H.length [], .cells [sv], .cells [cv], loopO env]) = some (.bool true, H ++ heapEg H.length sv cv env, H.length) := by
  rw [callL_yield]
  simp [heapEg, outCg, loopO, yieldBody, F17A0, F17B0, callBody, zipE, execL_seq, execL_region, execL_cond, execL_skip, execL_ret, execL_exit, execL_block, execOps, wantedA, S_mv, S_pick, S_bin, S_un, S_call0, S_call1, S_extract, S_nilEq, S_load, S_alloc, Opd.ev, lookupE, lookE_setE, St.put, binA, unA, boolOf, freezeVs, freezeV, freeze1, isP, isPs, resultsA, resultA, finish, old, olds, flat, movedH_same, Nat.min_self, loadA, readCells, cellsV_int, he, S_lit, S_append, S_store, step, storeA, fillL, elems, zeroElem, cellsV, cellOk, cellsOk, setCells, movedH, get_off, get_off0, set_off, set_off0]

set_option maxHeartbeats 1000000 in
theorem tuples1_emp_g {sv cv : V} {sizes : List Int} {env : Env} {H : Heap} (hs : VI sv sizes) (hc : VI cv []) (he : lookupE env 5 = .ptr H.length 0) :
    callL tab (.fn 62 [] [.ptr (H.length + 2) 0, .ptr (H.length + 1) 0]) [.yield (H.length + 3)] (H ++ [outCg H.length [], .cells [sv], .cells [cv], loopO env]) = some (.tup [], H ++ heapEg H.length sv cv env, H.length) := by
  have hcl := clone_emp_s (H := H ++ [outCg H.length [], .cells [sv], .cells [cv], loopO env])
  unfold Ans at hcl
  have hy := yield_emp_g (H := H) (sv := sv) (cv := cv) he
  have key := range_loop (tab := tab) (b := 13) (n := 11) (i := 12) (t := 47) (blk := 1) (ex := 0) (body := F62L1)
    (I := fun k st => st.H = (if k = 0 then H ++ [outCg H.length [], .cells [sv], .cells [cv], loopO env] else H ++ heapEg H.length sv cv env) ∧ st.low ≤ st.H.length ∧ lookupE st.vE 0 = .yield (H.length + 3) ∧ lookupE st.vE 4 = .emp ∧
      lookupE st.vE 12 = .int .i64 k ∧ lookupE st.vE 11 = .int .i64 1 ∧ (H.length ≤ st.low ∧ (0 < k → st.low ≤ H.length)))
    (Q := fun x st => x = .exit 0 ∧ st.H = H ++ heapEg H.length sv cv env ∧ st.low = H.length)
    (N := 1) (by decide) (by decide) (by decide)
    (fun k st h => ⟨h.2.2.2.2.1, h.2.2.2.2.2.1, h.2.1⟩)
    (by
      rintro k st hk ⟨q1, q2, q3, q4, q5, q6, q7, -⟩
      have hk0 : k = 0 := by omega
      subst hk0
      simp only [if_true] at q1
      have hw : IntKind.i64.wrap (-1) = -1 := rfl
      have hin : ∀ st0 : St, lookupE st0.vE 5 = .int .i64 (-1) → st0.low = H.length → H.length ≤ st0.H.length → ∃ st', execL tab (.loop F62L0) st0 = some (.exit 2, st') ∧ st'.H = st0.H ∧ st'.low = H.length ∧ ∀ s, s ≠ 23 → lookupE st'.vE s = lookupE st0.vE s := fun st0 h5 hl hle => by
        rw [execL_loop]
        simp only [F62L0]
        refine ⟨_, by simp [callBody, zipE, execL_seq, execL_region, execL_cond, execL_skip, execL_ret, execL_exit, execL_block, execOps, wantedA, S_mv, S_pick, S_bin, S_un, S_call0, S_call1, S_extract, S_nilEq, S_load, S_alloc, Opd.ev, lookupE, lookE_setE, St.put, binA, unA, boolOf, freezeVs, freezeV, freeze1, isP, isPs, resultsA, resultA, finish, old, olds, flat, movedH_same, Nat.min_self, loadA, readCells, cellsV_int, h5]; rfl, ?_⟩
        simp only [lookE_setE]
        exact ⟨trivial, by omega, fun s a => by simp [a]⟩
      obtain ⟨st', r1, r2, r3, r4⟩ := hin { tE := [], vE := setE (setE (setE st.vE 13 (.bool true)) 18 (.bool false)) 5 (.int .i64 (-1)), H := H ++ heapEg H.length sv cv env, low := H.length, ro := st.ro } (by simp [lookE_setE]) rfl (by simp)
      have hlen : (H ++ heapEg H.length sv cv env).length = H.length + 5 := by simp [heapEg]
      have hlen4 : (H ++ [outCg H.length [], .cells [sv], .cells [cv], loopO env]).length = H.length + 4 := by simp
      rw [hlen4] at hcl
      have hmn3 : min st.low H.length = H.length := by omega
      have hcond : ¬ H.length + 4 ≤ H.length := by omega
      have hmn : ∀ a, min H.length (H.length + a) = H.length := fun a => Nat.min_eq_left (by omega)
      have hmn2 : ∀ a, min (H.length + a) H.length = H.length := fun a => Nat.min_eq_right (by omega)
      refine ⟨.normal, st', by simp [F62L1, callBody, zipE, execL_seq, execL_region, execL_cond, execL_skip, execL_ret, execL_exit, execL_block, execOps, wantedA, S_mv, S_pick, S_bin, S_un, S_call0, S_call1, S_extract, S_nilEq, S_load, S_alloc, Opd.ev, lookupE, lookE_setE, St.put, binA, unA, boolOf, freezeVs, freezeV, freeze1, isP, isPs, resultsA, resultA, finish, old, olds, flat, movedH_same, Nat.min_self, loadA, readCells, cellsV_int, q1, q3, q4, hcl, hy, S_len 1, slE, el, hw, r1, hlen, hcond, hmn, hmn2, hmn3], ?_⟩
      simp only [true_or, if_true]
      refine ⟨by rw [r4 12 (by decide)]; simp [lookE_setE, q5], by rw [r3, r2, hlen]; omega, by rw [r2]; rfl, by show st'.low ≤ st'.H.length; rw [r3, r2, hlen]; omega, ?_, ?_, ?_, ?_, by rw [r3]; exact Nat.le_refl _, fun _ => by rw [r3]; exact Nat.le_refl _⟩
      · simp only [lookE_setE]; rw [r4 0 (by decide)]; simp [lookE_setE, q3]
      · simp only [lookE_setE]; rw [r4 4 (by decide)]; simp [lookE_setE, q4]
      · simp [lookE_setE]
      · simp only [lookE_setE]; rw [r4 11 (by decide)]; simp [lookE_setE, q6])
    (by
      rintro st ⟨q1, q2, q3, q4, q5, q6, q7⟩
      exact ⟨rfl, q1, by have := q7.1; have := q7.2 (by omega); show st.low = H.length; omega⟩)
  have hwid := width_s (H := H ++ [outCg H.length [], .cells [sv], .cells [cv], loopO env]) hs hc (fun c h => by cases h) (by intro k hk; simp at hk; subst hk; simp [prodI])
  unfold Ans at hwid
  have hp : prodI (dimsOf sizes []) = 1 := rfl
  have hlen4 : (H ++ [outCg H.length [], .cells [sv], .cells [cv], loopO env]).length = H.length + 4 := by simp
  rw [hp, hlen4] at hwid
  obtain ⟨x, st', h1, rfl, h2, hlow⟩ := key 1 0 { tE := [], vE := [(0, .yield (H.length + 3)), (1, .ptr (H.length + 2) 0), (2, .ptr (H.length + 1) 0), (4, .emp), (11, .int .i64 1), (12, .int .i64 0)], H := H ++ [outCg H.length [], .cells [sv], .cells [cv], loopO env], low := H.length + 4 } (by omega)
    ⟨rfl, by simp, rfl, rfl, rfl, rfl, by simp, fun h => absurd h (by omega)⟩
  rw [callL_fn, show tab 62 = some (.code F62) from rfl]
  have hl0 : (el cv).length = 0 := hc.len
  simp [F62, callBody, zipE, execL_seq, execL_region, execL_cond, execL_skip, execL_ret, execL_exit, execL_block, execOps, wantedA, S_mv, S_pick, S_bin, S_un, S_call0, S_call1, S_extract, S_nilEq, S_load, S_alloc, Opd.ev, lookupE, setE, St.put, binA, unA, boolOf, freezeVs, freezeV, freeze1, isP, isPs, resultsA, resultA, finish, old, olds, flat, movedH_same, Nat.min_self, loadA, readCells, cellsV_int, S_len 1, hc.sl, hs.sl, hl0, S_mkSlice, step, slE_isP hs.sl, slE_isP hc.sl, hwid, h1, h2, hlow, get_off, get_off0]

theorem tuples44_g {sv cv : V} (H : Heap) (h1 : slE 1 sv = true) (h2 : slE 1 cv = true) : callL tab (.fn 44 [] []) [sv, cv] (H ++ [.cells [.nil0]]) = some (.fn 62 [] [.ptr (H.length + 2) 0, .ptr (H.length + 1) 0], H ++ [.cells [.nil0], .cells [sv], .cells [cv]], H.length + 1) := by
  rw [callL_fn, show tab 44 = some (.code F44) from rfl]
  simp [F44, callBody, zipE, execL_seq, execL_region, execL_cond, execL_skip, execL_ret, execL_exit, execL_block, execOps, wantedA, S_mv, S_pick, S_bin, S_un, S_call0, S_call1, S_extract, S_nilEq, S_load, S_alloc, Opd.ev, lookupE, setE, St.put, binA, unA, boolOf, freezeVs, freezeV, freeze1, isP, isPs, resultsA, resultA, finish, old, olds, flat, movedH_same, Nat.min_self, loadA, readCells, cellsV_int, S_box_sl (es := 1), h1, h2, S_mkFn, movedH]

theorem tuples_bad_g (H : Heap) {sv cv : V} {sizes cols : List Int} (hs : VI sv sizes) (hc : VI cv cols)
    (hbad : (decide (cols.length ≤ 3) && !cols.any (badCol sizes)) = false ∨ (sizes.all fun n => decide (1 ≤ n) && decide (n ≤ 6)) = false) : Ans (.fn 17 [] []) [sv, cv] H .nil0 := by
  have hcol := columned_s (H := H) hs hc
  have hsz := sized_s (H := H) hs
  unfold Ans at hcol hsz ⊢
  rw [callL_fn, show tab 17 = some (.code F17) from rfl]
  generalize hb1 : (decide (cols.length ≤ 3) && !cols.any (badCol sizes)) = b1 at *
  generalize hb2 : (sizes.all fun n => decide (1 ≤ n) && decide (n ≤ 6)) = b2 at *
  cases b1 with
  | false => simp [F17, callBody, zipE, execL_seq, execL_region, execL_cond, execL_skip, execL_ret, execL_exit, execL_block, execOps, wantedA, S_mv, S_pick, S_bin, S_un, S_call0, S_call1, S_extract, S_nilEq, S_load, S_alloc, Opd.ev, lookupE, setE, St.put, binA, unA, boolOf, freezeVs, freezeV, freeze1, isP, isPs, resultsA, resultA, finish, old, olds, flat, movedH_same, Nat.min_self, loadA, readCells, cellsV_int, slE_isP hs.sl, slE_isP hc.sl, hcol]
  | true =>
    have : b2 = false := by simpa using hbad
    subst this
    simp [F17, callBody, zipE, execL_seq, execL_region, execL_cond, execL_skip, execL_ret, execL_exit, execL_block, execOps, wantedA, S_mv, S_pick, S_bin, S_un, S_call0, S_call1, S_extract, S_nilEq, S_load, S_alloc, Opd.ev, lookupE, setE, St.put, binA, unA, boolOf, freezeVs, freezeV, freeze1, isP, isPs, resultsA, resultA, finish, old, olds, flat, movedH_same, Nat.min_self, loadA, readCells, cellsV_int, slE_isP hs.sl, slE_isP hc.sl, hcol, hsz]

set_option maxHeartbeats 1000000 in
theorem tuples_good_g (H : Heap) {sv cv : V} {sizes cols : List Int} (hs : VI sv sizes) (hc : VI cv cols) (hcol : (decide (cols.length ≤ 3) && !cols.any (badCol sizes)) = true) (hsz : (sizes.all fun n => decide (1 ≤ n) && decide (n ≤ 6)) = true)
    (hne : cols ≠ []) {W : Nat} (hW : prodI (dimsOf sizes cols) = W) (hW1 : W ≤ 1000) (hW0 : 1 ≤ W)
    (hb : ∀ k, k ≤ cols.length → 0 ≤ prodI ((dimsOf sizes cols).take k) ∧ prodI ((dimsOf sizes cols).take k) < 4611686018427387904)
    (hin : ∀ c ∈ cols, 0 ≤ c ∧ c < sizes.length) (hd : ∀ d ∈ dimsOf sizes cols, 1 ≤ d ∧ d ≤ 6) (h3 : cols.length ≤ 3) :
    Ans (.fn 17 [] []) [sv, cv] H (.list 1 (Lk (dimsOf sizes cols) W)) := by
  have hcol' := columned_s (H := H) hs hc
  have hsz' := sized_s (H := H) hs
  have h44 := tuples44_g H hs.sl hc.sl
  have h62 := tuples1_g (H := H) (env := [(0, sv), (1, cv), (4, .nil0), (15, .bool false), (5, .ptr H.length 0), (18, .fn 62 [] [.ptr (H.length + 2) 0, .ptr (H.length + 1) 0])]) hs hc hin hd hne h3 rfl hW hW1 hW0 hb
  unfold Ans at hcol' hsz' ⊢
  rw [hcol] at hcol'; rw [hsz] at hsz'
  rw [callL_fn, show tab 17 = some (.code F17) from rfl]
  have hWne : Lk (dimsOf sizes cols) W ≠ [] := by intro e; have := congrArg List.length e; simp [Lk] at this; omega
  have hWl : (Lk (dimsOf sizes cols) W).length = W := by simp [Lk]
  have htk : List.take W (Lk (dimsOf sizes cols) W) = Lk (dimsOf sizes cols) W := List.take_of_length_le (by rw [hWl]; exact Nat.le_refl _)
  simp only [outCg, loopO, if_true] at h62
  simp [F17, callBody, zipE, execL_seq, execL_region, execL_cond, execL_skip, execL_ret, execL_exit, execL_block, execOps, wantedA, S_mv, S_pick, S_bin, S_un, S_call0, S_call1, S_extract, S_nilEq, S_load, S_alloc, Opd.ev, lookupE, setE, St.put, binA, unA, boolOf, freezeVs, freezeV, freeze1, isP, isPs, resultsA, resultA, finish, old, olds, flat, movedH_same, Nat.min_self, loadA, readCells, cellsV_int, slE_isP hs.sl, slE_isP hc.sl, hcol', hsz', h44, execL_range, roOk, isFn, h62, heapT, outCg, loopO, get_off, get_off0, set_off, set_off0, outRow, rowI, hWne, hWl, htk, Lk_isPs]

set_option maxHeartbeats 1000000 in
theorem tuples_emp_g (H : Heap) {sv cv : V} {sizes : List Int} (hs : VI sv sizes) (hc : VI cv []) (hsz : (sizes.all fun n => decide (1 ≤ n) && decide (n ≤ 6)) = true) :
    Ans (.fn 17 [] []) [sv, cv] H (.list 1 [.emp]) := by
  have hcol' := columned_s (H := H) hs hc
  have hsz' := sized_s (H := H) hs
  have h44 := tuples44_g H hs.sl hc.sl
  have h62 := tuples1_emp_g (H := H) (env := [(0, sv), (1, cv), (4, .nil0), (15, .bool false), (5, .ptr H.length 0), (18, .fn 62 [] [.ptr (H.length + 2) 0, .ptr (H.length + 1) 0])]) hs hc rfl
  unfold Ans at hcol' hsz' ⊢
  rw [hsz] at hsz'
  have hcol : (decide (([] : List Int).length ≤ 3) && !([] : List Int).any (badCol sizes)) = true := rfl
  rw [hcol] at hcol'
  rw [callL_fn, show tab 17 = some (.code F17) from rfl]
  simp only [outCg, loopO, if_true] at h62
  simp [F17, callBody, zipE, execL_seq, execL_region, execL_cond, execL_skip, execL_ret, execL_exit, execL_block, execOps, wantedA, S_mv, S_pick, S_bin, S_un, S_call0, S_call1, S_extract, S_nilEq, S_load, S_alloc, Opd.ev, lookupE, setE, St.put, binA, unA, boolOf, freezeVs, freezeV, freeze1, isP, isPs, resultsA, resultA, finish, old, olds, flat, movedH_same, Nat.min_self, loadA, readCells, cellsV_int, slE_isP hs.sl, slE_isP hc.sl, hcol', hsz', h44, execL_range, roOk, isFn, h62, heapEg, loopO, get_off, get_off0, set_off, set_off0]
end Go.Abs.T09
/- In a valid layout each number below the count is a cell of one table. -/
namespace Go.Abs.T09
open Go Go.Abs

theorem hit_iff {sizes : List Int} {b : Bool} {c : Int} {t : Tb} : hit sizes b c t = true ↔ strictB t = b ∧ t.first ≤ c ∧ c < t.first + wid sizes t := by
  simp only [hit, Bool.and_eq_true, decide_eq_true_eq, beq_iff_eq]
  constructor
  · rintro ⟨⟨a, h1⟩, h2⟩; exact ⟨a, by omega, by omega⟩
  · rintro ⟨a, h1, h2⟩; exact ⟨⟨a, by omega⟩, by omega⟩

theorem Valid.some_hit {sizes : List Int} {ts : List Tb} (h : Valid sizes ts) {b : Bool} {c : Int} (h0 : 0 ≤ c) : ∀ k, c < sumB b sizes (ts.take k) → ∃ i t, i < k ∧ ts[i]? = some t ∧ hit sizes b c t = true
  | 0, hc => by simp [sumB] at hc; omega
  | k + 1, hc => by
    cases e : ts[k]? with
    | none =>
      have hle := List.getElem?_eq_none_iff.1 e
      have e1 : ts.take (k + 1) = ts.take k := by rw [List.take_of_length_le hle, List.take_of_length_le (by omega)]
      rw [e1] at hc
      obtain ⟨i, t, hi, het, hh⟩ := h.some_hit h0 k hc
      exact ⟨i, t, by omega, het, hh⟩
    | some t =>
      by_cases hk : c < sumB b sizes (ts.take k)
      · obtain ⟨i, t, hi, het, hh⟩ := h.some_hit h0 k hk
        exact ⟨i, t, by omega, het, hh⟩
      · rw [sumB_succ e] at hc
        by_cases hb : strictB t = b
        · subst hb
          simp only [beq_self_eq_true, if_true] at hc
          exact ⟨k, t, by omega, e, hit_iff.2 ⟨rfl, by rw [h.first e]; omega, by rw [h.first e]; omega⟩⟩
        · have : (strictB t == b) = false := by simp [hb]
          rw [this] at hc
          simp at hc
          omega

theorem Valid.cell_of {sizes : List Int} {ts : List Tb} (h : Valid sizes ts) {i : Nat} {t : Tb} (e : ts[i]? = some t) {tu : List Int} (hR : InR (dimsOf sizes t.cl) tu) : cellR sizes ts i tu = (t.first + valP (dimsOf sizes t.cl) tu tu.length, 0) := by
  have hi : i < ts.length := by
    rcases Nat.lt_or_ge i ts.length with h1 | h1
    · exact h1
    · rw [List.getElem?_eq_none h1] at e; cases e
  unfold cellR
  rw [if_neg (by rw [valid_iff.2 h]; decide), if_neg (by omega)]
  simp only [Int.toNat_natCast, e]
  rw [if_pos hR]

/-- What cells.Tuple and cells.Cell say of a number below the count. -/
theorem Valid.there_back {sizes : List Int} {ts : List Tb} (h : Valid sizes ts) {b : Bool} {c : Int} (h0 : 0 ≤ c) (hc : c < sumB b sizes ts) :
    ∃ (i : Nat) (tu : List Int), tupleR sizes ts b c = .tup [.int .i64 i, tupV tu, .bool true] ∧ tu.length ≤ 3 ∧ cellR sizes ts i tu = (c, 0) := by
  obtain ⟨j, t, -, hjt, hjh⟩ := h.some_hit h0 ts.length (by rw [List.take_length]; exact hc)
  have hsome : ts.findIdx? (hit sizes b c) ≠ none := fun hn => by
    rw [List.findIdx?_eq_none_iff] at hn
    rw [hn t (List.mem_of_getElem? hjt)] at hjh; cases hjh
  obtain ⟨i, hi⟩ := Option.ne_none_iff_exists'.1 hsome
  obtain ⟨hil, hh, -⟩ := List.findIdx?_eq_some_iff_getElem.1 hi
  obtain ⟨t, het⟩ : ∃ t, ts[i]? = some t := ⟨_, List.getElem?_eq_getElem hil⟩
  have : ts[i] = t := by rw [List.getElem?_eq_getElem hil] at het; exact Option.some.inj het
  rw [this] at hh
  obtain ⟨h1, h2, h3⟩ := hit_iff.1 hh
  have hd := dims_in h.ok (h.good het)
  obtain ⟨k1, k2, k3⟩ := tupleOf_spec (fun d hd' => (hd d hd').1) (k := c - t.first) (by omega) (by unfold wid at h3; omega)
  refine ⟨i, tupleOf (dimsOf sizes t.cl) (c - t.first), ?_, ?_, ?_⟩
  · unfold tupleR
    rw [valid_iff.2 h, if_neg (by simp; omega), hi]
    simp only [het]
  · rw [k3]; simp [dimsOf]; exact (goodCols_in (h.good het)).1
  · rw [h.cell_of het k1, k2]
    congr 1; omega
theorem Valid.none_at_end {sizes : List Int} {ts : List Tb} (h : Valid sizes ts) {b : Bool} : tupleR sizes ts b (sumB b sizes ts) = .tup [.int .i64 0, .nil0, .bool false] := by
  have h0 := (h.sum_all b).1
  have hn : ts.findIdx? (hit sizes b (sumB b sizes ts)) = none := by
    rw [List.findIdx?_eq_none_iff]
    intro t ht
    obtain ⟨k, hk⟩ := List.getElem?_of_mem ht
    rw [Bool.eq_false_iff]
    intro hh
    obtain ⟨h1, h2, h3⟩ := hit_iff.1 hh
    have := (h.end_le hk).2
    rw [h1] at this
    omega
  unfold tupleR
  rw [valid_iff.2 h, if_neg (by simp; omega), hn]

/-- What cells.Tuples returns for the columns of a table of a valid layout. -/
theorem Valid.tuples {sizes : List Int} {ts : List Tb} {sv : V} (h : Valid sizes ts) (hs : VI sv sizes) {i : Nat} {t : Tb} (e : ts[i]? = some t) (ht : TbOk t) (H : Heap) :
    ∃ (W : Nat) (LL : List V), wid sizes t = W ∧ Ans (.fn 17 [] []) [sv, t.cv] H (.list 1 LL) ∧ LL.length = W ∧ ∀ k, k < W → ∃ v, LL[k]? = some v ∧ VI v (tk (dimsOf sizes t.cl) k) ∧ cellsV v = [v] := by
  have hg := h.good e
  have hdl : (dimsOf sizes t.cl).length = t.cl.length := by simp [dimsOf]
  have hin := (goodCols_in hg).2
  have h3 := (goodCols_in hg).1
  have hd := dims_in h.ok hg
  have hb := cols_bound h.ok hg
  have hw := h.widb e
  obtain ⟨W, hW⟩ : ∃ W : Nat, wid sizes t = W := ⟨(wid sizes t).toNat, by omega⟩
  have hsz : (sizes.all fun n => decide (1 ≤ n) && decide (n ≤ 6)) = true := h.ok
  refine ⟨W, ?_⟩
  by_cases hne : t.cl = []
  · have hW1 : W = 1 := by
      have : prodI (dimsOf sizes t.cl) = 1 := by rw [hne]; rfl
      unfold wid at hW; omega
    subst hW1
    refine ⟨[.emp], hW, tuples_emp_g H hs (by have := ht.cols; rw [hne] at this; exact this) hsz, rfl, fun k hk => ?_⟩
    have : k = 0 := by omega
    subst this
    exact ⟨.emp, rfl, by rw [hne]; exact ⟨rfl, rfl, by simp [tk, dimsOf]⟩, rfl⟩
  · refine ⟨Lk (dimsOf sizes t.cl) W, hW, tuples_good_g H hs ht.cols hg hsz hne hW (by omega) (by omega) (fun k hk => by have := hb k hk; omega) hin hd h3, by simp [Lk], fun k hk => ?_⟩
    refine ⟨tv (tk (dimsOf sizes t.cl) k), by simp [Lk, hk], ?_⟩
    exact tv_VI (by rw [(tk_inR (fun d h => (hd d h).1) k).1, hdl]; omega)

/-- The j-th tuple of a table is its j-th cell. -/
theorem Valid.tuple_cell {sizes : List Int} {ts : List Tb} (h : Valid sizes ts) {i : Nat} {t : Tb} (e : ts[i]? = some t) {j : Nat} (hj : (j : Int) < wid sizes t) : cellR sizes ts i (tk (dimsOf sizes t.cl) j) = (t.first + j, 0) := by
  have hd := dims_in h.ok (h.good e)
  have hR := tk_inR (fun d hd' => (hd d hd').1) j
  rw [h.cell_of e hR, hR.1, tk_val (fun d hd' => (hd d hd').1) j hj]
end Go.Abs.T09
/- cells.Format. -/
namespace Go.Abs.T09
open Go Go.Abs

theorem cellsV_st (s : List UInt8) : cellsV (.str s) = [.str s] := rfl
theorem strs_str (l : List (List UInt8)) : strs (l.map V.str) = some l := by
  induction l with
  | nil => rfl
  | cons s r ih => simp [strs, ih]
theorem join_s {l : List (List UInt8)} {sep : List UInt8} (hne : l ≠ []) (h1 : l.length ≤ 4096) (h2 : (Lib.join l sep).length ≤ 1000000) (H : Heap) : Ans (.fn 19 [] []) [.list 1 (l.map .str), .str sep] H (.str (Lib.join l sep)) := by
  unfold Ans
  have hip : isPs [V.list 1 (l.map .str), V.str sep] = true := by simp [isPs, isP, isPs_strs]
  rw [callL_fn, show tab 19 = some (.ext xJoin) from rfl]
  simp [hip, xJoin, strs_str, hne, h1, h2]
theorem join_s0 (sep : List UInt8) (H : Heap) : Ans (.fn 19 [] []) [.nil0, .str sep] H (.str []) := by
  unfold Ans
  rw [callL_fn, show tab 19 = some (.ext xJoin) from rfl]
  rfl
theorem itoa_s {d : Int} (h0 : 0 ≤ d) (h6 : d < 6) (H : Heap) : Ans (.fn 45 [] []) [.int .i64 d] H (.str [dgt d]) := by
  unfold Ans
  rw [callL_fn, show tab 45 = some (.ext xItoa) from rfl]
  have h10 : d < 10 := by omega
  simp [isPs, isP, xItoa, h0, h10, dgt]

/-- A row as it grows from nothing (z). -/
def RowV (z : V) (n : Nat) (H : Heap) (v : V) (l : List V) : Prop := (l = [] ∧ v = z) ∨ (l ≠ [] ∧ ∃ q, n ≤ q ∧ q < H.length ∧ v = .sref q 1 0 l.length l.length ∧ H[q]? = some (.row 1 l false))

theorem joinTail_len (ds : List Int) : (Lib.joinTail [44, 32] (ds.map fun d => [dgt d])).length = 3 * ds.length := by
  induction ds with
  | nil => rfl
  | cons d r ih => simp [Lib.joinTail] at ih ⊢; omega
theorem join_len (ds : List Int) : (Lib.join (ds.map fun d => [dgt d]) [44, 32]).length ≤ 3 * ds.length := by
  cases ds with
  | nil => simp [Lib.join]
  | cons d r => rw [List.map_cons, Lib.join_cons, List.length_append, joinTail_len]; simp; omega
theorem fmt_len (name : List UInt8) (ds : List Int) : (fmt name ds).length ≤ name.length + 3 * ds.length + 2 := by
  have := join_len ds
  simp [fmt]; omega

set_option maxHeartbeats 2000000 in
theorem format_s {sizes tu : List Int} {sv tv : V} {ts : List Tb} {strict : Bool} {cell : Int} {i : Nat} {t : Tb} (hs : VI sv sizes) (ht : VT tv ts) (hc : cell < 9223372036854775808) (hR : tupleR sizes ts strict cell = .tup [.int .i64 i, tupV tu, .bool true]) (het : ts[i]? = some t) (h3 : tu.length ≤ 3) (h6 : In6 tu) (hn : t.name.length ≤ 4096) (H : Heap) :
    Ans (.fn 18 [] []) [sv, tv, .bool strict, .int .i64 cell] H (.str (fmt t.name tu)) := by
  have hT := tuple_s (strict := strict) hs ht hc H
  rw [hR] at hT
  unfold Ans at hT ⊢
  have hsp := slE_isP hs.sl
  have htp := slE_isP ht.sl
  have hu := tupV_VI (l := tu) (by omega)
  have hup := slE_isP hu.sl
  have hg := ht.get het
  have key := range_loop (tab := tab) (b := 29) (n := 27) (i := 28) (t := 37) (blk := 1) (ex := 0) (body := F18L0)
    (I := fun k st => H.length ≤ st.H.length ∧ st.low = H.length ∧ lookupE st.vE 1 = tv ∧ lookupE st.vE 9 = .int .i64 i ∧ lookupE st.vE 26 = tupV tu ∧ lookupE st.vE 28 = .int .i64 k ∧ lookupE st.vE 27 = .int .i64 tu.length ∧ ∃ w, lookupE st.vE 12 = w ∧ RowV .nil0 H.length st.H w ((tu.take k).map fun d => .str [dgt d]))
    (Q := fun x st => x = .exit 0 ∧ H.length ≤ st.H.length ∧ st.low = H.length ∧ lookupE st.vE 1 = tv ∧ lookupE st.vE 9 = .int .i64 i ∧ ∃ w, lookupE st.vE 12 = w ∧ RowV .nil0 H.length st.H w (tu.map fun d => .str [dgt d]))
    (N := tu.length) (by omega) (by decide) (by decide)
    (fun k st h => ⟨h.2.2.2.2.2.1, h.2.2.2.2.2.2.1, by rw [h.2.1]; exact h.1⟩)
    (by
      rintro k st hk ⟨q1, q2, q3, q4, q5, q6, q7, w, q8, q9⟩
      obtain ⟨d, hd⟩ : ∃ d, tu[k]? = some d := ⟨_, List.getElem?_eq_getElem hk⟩
      have hd6 := h6 d (List.mem_of_getElem? hd)
      have hgd := hu.get hd
      have n0 : min H.length st.H.length = H.length := Nat.min_eq_left q1
      have hit := itoa_s hd6.1 hd6.2 st.H
      unfold Ans at hit
      have htake : (tu.take (k + 1)).map (fun d => V.str [dgt d]) = (tu.take k).map (fun d => .str [dgt d]) ++ [.str [dgt d]] := by rw [List.take_add_one, hd]; simp
      have hlk : ((tu.take k).map fun d => V.str [dgt d]).length = k := by simp; omega
      rcases q9 with ⟨e, rfl⟩ | ⟨e, q, h1, h2, rfl, h4⟩
      · have : ∃ st2, execL tab F18L0 { st with tE := [], vE := setE st.vE 29 (.bool true) } = some (.normal, st2) ∧ st2.H = st.H ++ [.row 1 [.str [dgt d]] false] ∧ st2.low = H.length ∧ lookupE st2.vE 12 = .sref st.H.length 1 0 1 1 ∧ ∀ s, s ≠ 12 → s ≠ 14 → s ≠ 29 → lookupE st2.vE s = lookupE st.vE s := by
          refine ⟨_, by simp [F18L0, callBody, zipE, execL_seq, execL_region, execL_cond, execL_skip, execL_ret, execL_exit, execL_block, execOps, wantedA, S_mv, S_pick, S_bin, S_un, S_call0, S_call1, S_extract, S_nilEq, S_load, S_alloc, Opd.ev, lookupE, lookE_setE, St.put, binA, unA, boolOf, freezeVs, freezeV, freeze1, isP, isPs, resultsA, resultA, finish, old, olds, flat, movedH_same, Nat.min_self, loadA, readCells, cellsV_int, cellsV_st, q2, q5, q6, q8, n0, S_index, hu.sl, hgd, hit, S_lit, S_append, step, fillL, zeroElem, elems, cellsOk, cellOk]; rfl, ?_⟩
          exact ⟨by simp, by first | (simp; done) | (simp; omega), by simp [lookE_setE], fun s a b c => by simp [lookE_setE, a, b, c]⟩
        obtain ⟨st2, a1, a2, a3, a4, a5⟩ := this
        refine ⟨.normal, st2, a1, ?_⟩
        simp only [true_or, if_true]
        refine ⟨by rw [a5 28 (by decide) (by decide) (by decide)]; exact q6, by rw [a3, a2]; simp; omega, by show H.length ≤ st2.H.length; rw [a2]; simp; omega, a3, by simp [lookE_setE, a5, q3], by simp [lookE_setE, a5, q4], by simp [lookE_setE, a5, q5], by simp [lookE_setE], by simp [lookE_setE, a5, q7], _, by simp [lookE_setE, a4]; rfl, ?_⟩
        rw [htake, e]
        refine .inr ⟨by simp, st.H.length, by omega, by show _ < st2.H.length; rw [a2]; simp, rfl, ?_⟩
        show st2.H[_]? = _
        rw [a2, get_off0]; rfl
      · have h4E : ∀ h : q < st.H.length, st.H[q]'h = .row 1 ((tu.take k).map fun d => .str [dgt d]) false := fun h => by rw [List.getElem?_eq_getElem h] at h4; exact Option.some.inj h4
        rw [hlk] at q8
        have hcap : (k + 1) * 17 ≤ 1099511627776 := by omega
        have hkl : k ≤ tu.length := by omega
        have hlow2 : min H.length (min st.H.length q) = H.length := by omega
        have hlow3 : min H.length q = H.length := by omega
        have : ∃ st2, execL tab F18L0 { st with tE := [], vE := setE st.vE 29 (.bool true) } = some (.normal, st2) ∧ st2.H = st.H.set q (.row 1 ((tu.take k).map (fun d => .str [dgt d]) ++ [.str [dgt d]]) false) ∧ st2.low = H.length ∧ lookupE st2.vE 12 = .sref q 1 0 (k + 1) (k + 1) ∧ ∀ s, s ≠ 12 → s ≠ 14 → s ≠ 29 → lookupE st2.vE s = lookupE st.vE s := by
          refine ⟨_, by simp [F18L0, callBody, zipE, execL_seq, execL_region, execL_cond, execL_skip, execL_ret, execL_exit, execL_block, execOps, wantedA, S_mv, S_pick, S_bin, S_un, S_call0, S_call1, S_extract, S_nilEq, S_load, S_alloc, Opd.ev, lookupE, lookE_setE, St.put, binA, unA, boolOf, freezeVs, freezeV, freeze1, isP, isPs, resultsA, resultA, finish, old, olds, flat, movedH_same, Nat.min_self, loadA, readCells, cellsV_int, cellsV_st, q2, q5, q6, q8, n0, S_index, hu.sl, hgd, hit, S_lit, S_append, step, fillL, zeroElem, elems, cellsOk, cellOk, h4, h4E, hlk, hkl, hcap]; rfl, ?_⟩
          exact ⟨by simp, by first | (simp; done) | (simp; omega), by simp [lookE_setE], fun s a b c => by simp [lookE_setE, a, b, c]⟩
        obtain ⟨st2, a1, a2, a3, a4, a5⟩ := this
        refine ⟨.normal, st2, a1, ?_⟩
        simp only [true_or, if_true]
        refine ⟨by rw [a5 28 (by decide) (by decide) (by decide)]; exact q6, by rw [a3, a2]; simp; omega, by show H.length ≤ st2.H.length; rw [a2]; simp; omega, a3, by simp [lookE_setE, a5, q3], by simp [lookE_setE, a5, q4], by simp [lookE_setE, a5, q5], by simp [lookE_setE], by simp [lookE_setE, a5, q7], _, by simp [lookE_setE, a4]; rfl, ?_⟩
        rw [htake]
        refine .inr ⟨by simp, q, h1, by show _ < st2.H.length; rw [a2]; simp; omega, by simp; omega, ?_⟩
        show st2.H[_]? = _
        rw [a2, List.getElem?_set_self h2])
    (by
      rintro st ⟨q1, q2, q3, q4, q5, q6, q7, w, q8, q9⟩
      rw [List.take_length] at q9
      exact ⟨rfl, q1, q2, by simp [lookE_setE, q3], by simp [lookE_setE, q4], w, by simp [lookE_setE, q8], q9⟩)
  obtain ⟨x, st', r1, rfl, r2, r3, r4, r5, w, r6, r7⟩ := key tu.length 0 { tE := [], vE := [(0, sv), (1, tv), (2, .bool strict), (3, .int .i64 cell), (8, .str []), (9, .int .i64 i), (10, tupV tu), (11, .bool true), (25, .bool false), (12, .nil0), (26, tupV tu), (27, .int .i64 tu.length), (28, .int .i64 0)], H := H, low := H.length } (by omega)
    ⟨Nat.le_refl _, rfl, rfl, rfl, rfl, rfl, rfl, .nil0, rfl, .inl ⟨rfl, rfl⟩⟩
  have hmin : min H.length st'.H.length = H.length := Nat.min_eq_left r2
  have hjl := join_len tu
  have hc1 : t.name.length + 1 ≤ 1099511627776 := by omega
  have hc2 : t.name.length + 1 + (Lib.join (tu.map fun d => [dgt d]) [44, 32]).length ≤ 1099511627776 := by omega
  have hc3 : t.name.length + 1 + (Lib.join (tu.map fun d => [dgt d]) [44, 32]).length + 1 ≤ 1099511627776 := by omega
  rw [callL_fn, show tab 18 = some (.code F18) from rfl]
  rcases r7 with ⟨e, rfl⟩ | ⟨e, q, h1, h2, rfl, h4⟩
  · have htn : tu = [] := by simpa using e
    subst htn
    have hj := join_s0 [44, 32] st'.H
    simp only [List.length_nil, Int.ofNat_zero, Int.natCast_zero] at r1
    unfold Ans at hj
    have hc4 : t.name.length + 1 + 1 ≤ 1099511627776 := by omega
    simp [F18, callBody, zipE, execL_seq, execL_region, execL_cond, execL_skip, execL_ret, execL_exit, execL_block, execOps, wantedA, S_mv, S_pick, S_bin, S_un, S_call0, S_call1, S_extract, S_nilEq, S_load, S_alloc, Opd.ev, lookupE, setE, St.put, binA, unA, boolOf, freezeVs, freezeV, freeze1, isP, isPs, resultsA, resultA, finish, old, olds, flat, movedH_same, Nat.min_self, loadA, readCells, cellsV_int, cellsV_st, hsp, htp, hT, hup, S_len 1, hu.sl, hu.len, r1, r3, r4, r5, r6, S_index, ht.sl, hg, S_fieldAddr, cellsV_tb, Tb.c0, Tb.e0, Tb.len, hj, hc1, hc4, hmin, inOrder, fmt, Lib.join, lookE_setE]
  · have h4E : ∀ h : q < st'.H.length, st'.H[q]'h = .row 1 (tu.map fun d => .str [dgt d]) false := fun h => by rw [List.getElem?_eq_getElem h] at h4; exact Option.some.inj h4
    have hne : tu ≠ [] := by rintro rfl; exact e rfl
    have em : (tu.map fun d => V.str [dgt d]) = (tu.map fun d => [dgt d]).map V.str := by simp
    have hip : isPs (tu.map fun d => V.str [dgt d]) = true := by rw [em]; exact isPs_strs _
    have hj := join_s (l := tu.map fun d => [dgt d]) (sep := [44, 32]) (by simpa using hne) (by simp; omega) (by omega) (st'.H.set q (.row 1 (tu.map fun d => .str [dgt d]) true))
    rw [← em] at hj
    unfold Ans at hj
    rw [List.length_set] at hj
    have hlen : (tu.map fun d => V.str [dgt d]).length = tu.length := by simp
    rw [hlen] at r6
    have htk : List.take tu.length (tu.map fun d => V.str [dgt d]) = tu.map fun d => V.str [dgt d] := List.take_of_length_le (by simp)
    have hc5 : t.name.length + ((Lib.join (tu.map fun d => [dgt d]) [44, 32]).length + 1) ≤ 1099511627775 := by omega
    have hmq : min H.length q = H.length := Nat.min_eq_left h1
    have hmq2 : min H.length (min st'.H.length q) = H.length := by omega
    simp [F18, callBody, zipE, execL_seq, execL_region, execL_cond, execL_skip, execL_ret, execL_exit, execL_block, execOps, wantedA, S_mv, S_pick, S_bin, S_un, S_call0, S_call1, S_extract, S_nilEq, S_load, S_alloc, Opd.ev, lookupE, setE, St.put, binA, unA, boolOf, freezeVs, freezeV, freeze1, isP, isPs, resultsA, resultA, finish, old, olds, flat, movedH_same, Nat.min_self, loadA, readCells, cellsV_int, cellsV_st, hsp, htp, hT, hup, S_len 1, hu.sl, hu.len, r1, r3, r4, r5, r6, S_index, ht.sl, hg, S_fieldAddr, cellsV_tb, Tb.c0, Tb.e0, Tb.len, h4, h4E, hip, htk, hj, hc1, hc2, hc3, hc5, hmin, hmq, hmq2, inOrder, movedH, touches, fmt, lookE_setE]
end Go.Abs.T09
/- cells.Parse: its parts. -/
namespace Go.Abs.T09
open Go Go.Abs

theorem kind_dgt {d : Int} (h0 : 0 ≤ d) (h6 : d < 6) : kindOf [dgt d] = 3 := by
  rcases dgt_cases h0 h6 with rfl | rfl | rfl | rfl | rfl | rfl <;> decide
theorem kind_name {w : List UInt8} (h : nameOk w = true) : kindOf w = 1 := by
  simp only [nameOk, Bool.and_eq_true, decide_eq_true_eq] at h
  exact h.2
theorem atoi_dgt {d : Int} (h0 : 0 ≤ d) (h6 : d < 6) : Lib.atoi [dgt d] = some d := by
  rcases dgt_cases h0 h6 with rfl | rfl | rfl | rfl | rfl | rfl <;> decide
theorem atoi_s {d : Int} (h0 : 0 ≤ d) (h6 : d < 6) (H : Heap) : Ans (.fn 77 [] []) [.str [dgt d]] H (.tup [.int .i64 d, .nili]) := by
  unfold Ans
  rw [callL_fn, show tab 77 = some (.ext xAtoi) from rfl]
  simp [isPs, isP, xAtoi, atoi_dgt h0 h6]
theorem num_s {d : Int} (h0 : 0 ≤ d) (h6 : d < 6) (H : Heap) : Ans (.fn 51 [] []) [.str [dgt d]] H (.tup [.int .i64 d, .bool true]) := by
  have hk := kindF_s [dgt d] H
  rw [kind_dgt h0 h6] at hk
  have ha := atoi_s h0 h6 H
  unfold Ans at *
  rw [callL_fn, show tab 51 = some (.code F51) from rfl]
  simp [F51, callBody, zipE, execL_seq, execL_region, execL_cond, execL_skip, execL_ret, execL_exit, execL_block, execOps, wantedA, S_mv, S_pick, S_bin, S_un, S_call0, S_call1, S_extract, S_nilEq, S_load, S_alloc, S_box, Opd.ev, lookupE, setE, St.put, binA, unA, boolOf, freezeVs, freezeV, freeze1, isP, isPs, resultsA, resultA, finish, old, olds, flat, movedH_same, Nat.min_self, loadA, readCells, cellsV, S_len0, hk, ha, nilEqA, inOrder]

/-! ### the table of a name -/
theorem named_s {t : Tb} {p : Nat} {H : Heap} {name : List UInt8} {W : List V} (ht : TbOk t) (hp : H[p]? = some (.cells [.list 1 W])) (hW : W[0]? = some (.str name)) : Ans (.fn 53 [] [.ptr p 0]) [.agg t.cells] H (.bool (t.name == name)) := by
  have hpl : p < H.length := by
    rcases Nat.lt_or_ge p H.length with h | h
    · exact h
    · rw [List.getElem?_eq_none h] at hp; cases hp
  have hp2 := get_app hp [.cells t.cells]
  have hco := ht.cells
  have hsl : slE 1 (V.list 1 W) = true := rfl
  have hel : el (V.list 1 W) = W := rfl
  unfold Ans
  rw [callL_fn, show tab 53 = some (.code F53) from rfl]
  have hWl : 0 < W.length := by
    rcases Nat.eq_zero_or_pos W.length with h | h
    · rw [List.getElem?_eq_none (by omega)] at hW; cases hW
    · exact h
  have hWE : ∀ h : 0 < W.length, W[0]'h = .str name := fun h => by rw [List.getElem?_eq_getElem h] at hW; exact Option.some.inj hW
  cases hE : (t.name == name) <;>
  simp [F53, callBody, zipE, execL_seq, execL_region, execL_cond, execL_skip, execL_ret, execL_exit, execL_block, execOps, wantedA, S_mv, S_pick, S_bin, S_un, S_call0, S_call1, S_extract, S_nilEq, S_load, S_alloc, Opd.ev, lookupE, setE, St.put, binA, unA, boolOf, freezeVs, freezeV, freeze1, isP, isPs, resultsA, resultA, finish, old, olds, flat, movedH_same, Nat.min_self, loadA, readCells, cellsV_int, S_box, cellsV_agg, hco, get_off0, Tb.c0, Tb.e0, Tb.len, S_fieldAddr, hp2, S_index, hsl, hel, natOf, hW, hWE, hWl, cellsV_st, inOrder, movedH, hE]

set_option maxHeartbeats 1000000 in
theorem indexN_s {tv : V} {ts : List Tb} {p : Nat} {H : Heap} {name : List UInt8} {W : List V} (ht : VT tv ts) (hp : H[p]? = some (.cells [.list 1 W])) (hW : W[0]? = some (.str name)) {i : Nat} (hi : ts.findIdx? (fun t => t.name == name) = some i) :
    Ans (.fn 52 [] []) [tv, .fn 53 [] [.ptr p 0]] H (.int .i64 i) := by
  unfold Ans
  obtain ⟨hil, hih, hij⟩ := List.findIdx?_eq_some_iff_getElem.1 hi
  have key := range_loop (tab := tab) (b := 9) (n := 7) (i := 8) (t := 18) (blk := 1) (ex := 0) (body := F52L0)
    (I := fun k st => st.H = H ∧ st.low = H.length ∧ lookupE st.vE 0 = tv ∧ lookupE st.vE 1 = .fn 53 [] [.ptr p 0] ∧ lookupE st.vE 8 = .int .i64 k ∧ lookupE st.vE 7 = .int .i64 ts.length ∧ k ≤ i)
    (Q := fun x st => x = .ret ∧ st.H = H ∧ st.low = H.length ∧ lookupE st.vE 4 = .int .i64 i)
    (N := ts.length) ht.lt (by decide) (by decide)
    (fun k st h => ⟨h.2.2.2.2.1, h.2.2.2.2.2.1, by rw [h.1, h.2.1]; exact Nat.le_refl _⟩)
    (by
      rintro k st hk ⟨q1, q2, q3, q4, q5, q6, q7⟩
      obtain ⟨t, het⟩ : ∃ t, ts[k]? = some t := ⟨_, List.getElem?_eq_getElem hk⟩
      have hto := ht.ok t (List.mem_of_getElem? het)
      have hg := ht.get het
      have c := named_s (H := H) hto hp hW
      unfold Ans at c
      have htk : ts[k] = t := by rw [List.getElem?_eq_getElem hk] at het; exact Option.some.inj het
      have hpP := hto.isP
      by_cases hki : k = i
      · subst hki
        have hE : (t.name == name) = true := by rw [htk] at hih; exact hih
        rw [hE] at c
        refine ⟨.ret, _, by simp [F52L0, callBody, zipE, execL_seq, execL_region, execL_cond, execL_skip, execL_ret, execL_exit, execL_block, execOps, wantedA, S_mv, S_pick, S_bin, S_un, S_call0, S_call1, S_extract, S_nilEq, S_load, S_alloc, Opd.ev, lookupE, lookE_setE, St.put, binA, unA, boolOf, freezeVs, freezeV, freeze1, isP, isPs, resultsA, resultA, finish, old, olds, flat, movedH_same, Nat.min_self, loadA, readCells, cellsV_int, q1, q2, q3, q4, q5, S_index, ht.sl, hg, cellsV_tb, Tb.len, Tb.t6, hpP, c]; rfl, ?_⟩
        simp only [reduceCtorEq, or_self, if_false]
        exact ⟨trivial, by simp, by simp, by simp [lookE_setE]⟩
      · have hlt : k < i := by omega
        have hE : (t.name == name) = false := by have := hij k hlt; rw [htk] at this; simpa using this
        rw [hE] at c
        refine ⟨.normal, _, by simp [F52L0, callBody, zipE, execL_seq, execL_region, execL_cond, execL_skip, execL_ret, execL_exit, execL_block, execOps, wantedA, S_mv, S_pick, S_bin, S_un, S_call0, S_call1, S_extract, S_nilEq, S_load, S_alloc, Opd.ev, lookupE, lookE_setE, St.put, binA, unA, boolOf, freezeVs, freezeV, freeze1, isP, isPs, resultsA, resultA, finish, old, olds, flat, movedH_same, Nat.min_self, loadA, readCells, cellsV_int, q1, q2, q3, q4, q5, S_index, ht.sl, hg, cellsV_tb, Tb.len, Tb.t6, hpP, c]; rfl, ?_⟩
        simp only [true_or, if_true]
        exact ⟨by simp [lookE_setE, q5], by simp, by simp, by simp, by simp [lookE_setE, q3], by simp [lookE_setE, q4], by simp [lookE_setE], by simp [lookE_setE, q6], by omega⟩)
    (by rintro st ⟨q1, q2, q3, q4, q5, q6, q7⟩; omega)
  obtain ⟨x, st', r1, rfl, r2, r3, r4⟩ := key ts.length 0 { tE := [], vE := [(0, tv), (1, .fn 53 [] [.ptr p 0]), (4, .int .i64 0), (7, .int .i64 ts.length), (8, .int .i64 0)], H := H, low := H.length } (by omega) ⟨rfl, rfl, rfl, rfl, rfl, rfl, by omega⟩
  rw [callL_fn, show tab 52 = some (.code F52) from rfl]
  simp [F52, callBody, zipE, execL_seq, execL_region, execL_cond, execL_skip, execL_ret, execL_exit, execL_block, execOps, wantedA, S_mv, S_pick, S_bin, S_un, S_call0, S_call1, S_extract, S_nilEq, S_load, S_alloc, Opd.ev, lookupE, setE, St.put, binA, unA, boolOf, freezeVs, freezeV, freeze1, isP, isPs, resultsA, resultA, finish, old, olds, flat, movedH_same, Nat.min_self, loadA, readCells, cellsV_int, S_len 6, ht.sl, ht.len, r1, r2, r3, r4, lookE_setE]

def F21C : ACode := .seq (.region [⟨some (6, true), .mv (.const (.int .i64 0)), none⟩, ⟨some (7, true), .mv (.const (.int .i64 0)), none⟩, ⟨some (8, true), .mv (.const (.int .i64 0)), none⟩] none) (.seq (.seq (.region [⟨some (20, false), .mv (.var 0), none⟩, ⟨some (21, false), .mv (.var 1), none⟩, ⟨some (22, false), .call false (.func 15) [(.tmp 20), (.tmp 21)], none⟩, ⟨some (23, true), .un .not (.tmp 22), none⟩] none) (.cond (.var 23) (.seq (.region [⟨some (6, true), .mv (.const (.int .i64 0)), none⟩, ⟨some (7, true), .mv (.const (.int .i64 0)), none⟩, ⟨some (8, true), .mv (.const (.int .i64 1)), none⟩] none) (.ret)) (.skip))) (.seq (.region [⟨some (24, false), .mv (.var 2), none⟩, ⟨some (25, false), .call false (.func 20) [(.tmp 24)], none⟩, ⟨some (9, true), .alloc [.nil0], none⟩, ⟨none, .store 1 (.var 9) (.tmp 25), none⟩] none) (.seq (.seq (.region [⟨some (26, false), .load none (.var 9), none⟩, ⟨some (27, false), .len 1 (.tmp 26), none⟩, ⟨some (28, false), .bin .lss (.tmp 27) (.const (.int .i64 3)), none⟩, ⟨some (29, false), .mv (.tmp 28), none⟩, ⟨some (30, false), .load none (.var 9), some ((.tmp 29), false)⟩, ⟨some (31, false), .indexAddr 1 (.tmp 30) (.const (.int .i64 0)), some ((.tmp 29), false)⟩, ⟨some (32, false), .load none (.tmp 31), some ((.tmp 29), false)⟩, ⟨some (33, false), .call false (.func 50) [(.tmp 32)], some ((.tmp 29), false)⟩, ⟨some (34, false), .bin .neq (.tmp 33) (.const (.int .i64 1)), some ((.tmp 29), false)⟩, ⟨some (35, false), .pick (.tmp 29) (.const (.bool true)) (.tmp 34), none⟩, ⟨some (36, false), .mv (.tmp 35), none⟩, ⟨some (37, false), .load none (.var 9), some ((.tmp 36), false)⟩, ⟨some (38, false), .indexAddr 1 (.tmp 37) (.const (.int .i64 1)), some ((.tmp 36), false)⟩, ⟨some (39, false), .load none (.tmp 38), some ((.tmp 36), false)⟩, ⟨some (40, false), .bin .neq (.tmp 39) (.const (.str [40])), some ((.tmp 36), false)⟩, ⟨some (41, false), .pick (.tmp 36) (.const (.bool true)) (.tmp 40), none⟩, ⟨some (42, false), .mv (.tmp 41), none⟩, ⟨some (43, false), .load none (.var 9), some ((.tmp 42), false)⟩, ⟨some (44, false), .load none (.var 9), some ((.tmp 42), false)⟩, ⟨some (45, false), .len 1 (.tmp 44), some ((.tmp 42), false)⟩, ⟨some (46, false), .bin .sub (.tmp 45) (.const (.int .i64 1)), some ((.tmp 42), false)⟩, ⟨some (47, false), .indexAddr 1 (.tmp 43) (.tmp 46), some ((.tmp 42), false)⟩, ⟨some (48, false), .load none (.tmp 47), some ((.tmp 42), false)⟩, ⟨some (49, false), .bin .neq (.tmp 48) (.const (.str [41])), some ((.tmp 42), false)⟩, ⟨some (50, true), .pick (.tmp 42) (.const (.bool true)) (.tmp 49), none⟩] none) (.cond (.var 50) (.seq (.region [⟨some (6, true), .mv (.const (.int .i64 0)), none⟩, ⟨some (7, true), .mv (.const (.int .i64 0)), none⟩, ⟨some (8, true), .mv (.const (.int .i64 3)), none⟩] none) (.ret)) (.skip))) (.seq (.region [⟨some (51, false), .load none (.var 9), none⟩, ⟨some (52, false), .load none (.var 9), none⟩, ⟨some (53, false), .len 1 (.tmp 52), none⟩, ⟨some (54, false), .bin .sub (.tmp 53) (.const (.int .i64 1)), none⟩, ⟨some (55, false), .sliceL 1 (.tmp 51) (some (.const (.int .i64 2))) (some (.tmp 54)) none, none⟩, ⟨some (10, true), .mv (.tmp 55), none⟩] none) (.seq (.seq (.region [⟨some (56, false), .mv (.var 10), none⟩, ⟨some (57, false), .len 1 (.tmp 56), none⟩, ⟨some (58, false), .bin .gtr (.tmp 57) (.const (.int .i64 0)), none⟩, ⟨some (59, false), .mv (.tmp 58), none⟩, ⟨some (60, false), .mv (.var 10), some ((.tmp 59), true)⟩, ⟨some (61, false), .len 1 (.tmp 60), some ((.tmp 59), true)⟩, ⟨some (62, false), .bin .rem (.tmp 61) (.const (.int .i64 2)), some ((.tmp 59), true)⟩, ⟨some (63, false), .bin .eql (.tmp 62) (.const (.int .i64 0)), some ((.tmp 59), true)⟩, ⟨some (64, true), .pick (.tmp 59) (.tmp 63) (.const (.bool false)), none⟩] none) (.cond (.var 64) (.seq (.region [⟨some (6, true), .mv (.const (.int .i64 0)), none⟩, ⟨some (7, true), .mv (.const (.int .i64 0)), none⟩, ⟨some (8, true), .mv (.const (.int .i64 3)), none⟩] none) (.ret)) (.skip))) (.seq (.region [⟨some (11, true), .mv (.const (.nil0)), none⟩] none) (.seq (.region [⟨some (12, true), .mv (.const (.bool true)), none⟩] none) (.seq (.seq (.region [⟨some (65, true), .mv (.var 10), none⟩, ⟨some (66, true), .len 1 (.var 65), none⟩, ⟨some (67, true), .mv (.const (.int .i64 0)), none⟩] none) (.block 0 (.loop (rangeBody 68 66 67 93 1 0 F21L0)))) (.seq (.region [⟨some (94, false), .mv (.var 1), none⟩, ⟨some (95, false), .mkFn 53 [] [(.var 9)], none⟩, ⟨some (96, false), .call false (.func 52) [(.tmp 94), (.tmp 95)], none⟩, ⟨some (17, true), .mv (.tmp 96), none⟩] none) (.seq (.seq (.region [⟨some (97, false), .mv (.var 17), none⟩, ⟨some (98, true), .bin .lss (.tmp 97) (.const (.int .i64 0)), none⟩] none) (.cond (.var 98) (.seq (.region [⟨some (6, true), .mv (.const (.int .i64 0)), none⟩, ⟨some (7, true), .mv (.const (.int .i64 0)), none⟩, ⟨some (8, true), .mv (.const (.int .i64 4)), none⟩] none) (.ret)) (.skip))) (.seq (.region [⟨some (100, false), .mv (.var 0), none⟩, ⟨some (101, false), .mv (.var 1), none⟩, ⟨some (102, false), .mv (.var 17), none⟩, ⟨some (103, false), .mv (.var 11), none⟩, ⟨some (104, false), .call false (.func 10) [(.tmp 100), (.tmp 101), (.tmp 102), (.tmp 103)], none⟩, ⟨some (99, false), .mv (.tmp 104), none⟩, ⟨some (105, false), .extract (.tmp 99) 0, none⟩, ⟨some (106, false), .extract (.tmp 99) 1, none⟩, ⟨some (18, true), .mv (.tmp 105), none⟩, ⟨some (19, true), .mv (.tmp 106), none⟩] none) (.seq (.seq (.region [⟨some (107, false), .mv (.var 19), none⟩, ⟨some (108, false), .bin .neq (.tmp 107) (.const (.int .i64 0)), none⟩, ⟨some (109, false), .mv (.tmp 108), none⟩, ⟨some (110, false), .mv (.var 12), some ((.tmp 109), false)⟩, ⟨some (111, false), .un .not (.tmp 110), some ((.tmp 109), false)⟩, ⟨some (112, true), .pick (.tmp 109) (.const (.bool true)) (.tmp 111), none⟩] none) (.cond (.var 112) (.seq (.region [⟨some (6, true), .mv (.const (.int .i64 0)), none⟩, ⟨some (7, true), .mv (.const (.int .i64 0)), none⟩, ⟨some (8, true), .mv (.const (.int .i64 2)), none⟩] none) (.ret)) (.skip))) (.seq (.region [⟨some (113, false), .mv (.var 17), none⟩, ⟨some (114, false), .mv (.var 18), none⟩, ⟨some (6, true), .mv (.tmp 113), none⟩, ⟨some (7, true), .mv (.tmp 114), none⟩, ⟨some (8, true), .mv (.const (.int .i64 0)), none⟩] none) (.ret))))))))))))))
theorem F21_body : F21 = ⟨115, F21C, [.tmp 6, .tmp 7, .tmp 8], false⟩ := rfl
def F21Pa : ACode := .region [⟨some (6, true), .mv (.const (.int .i64 0)), none⟩, ⟨some (7, true), .mv (.const (.int .i64 0)), none⟩, ⟨some (8, true), .mv (.const (.int .i64 0)), none⟩] none
def F21Pb : ACode := .seq (.region [⟨some (20, false), .mv (.var 0), none⟩, ⟨some (21, false), .mv (.var 1), none⟩, ⟨some (22, false), .call false (.func 15) [(.tmp 20), (.tmp 21)], none⟩, ⟨some (23, true), .un .not (.tmp 22), none⟩] none) (.cond (.var 23) (.seq (.region [⟨some (6, true), .mv (.const (.int .i64 0)), none⟩, ⟨some (7, true), .mv (.const (.int .i64 0)), none⟩, ⟨some (8, true), .mv (.const (.int .i64 1)), none⟩] none) (.ret)) (.skip))
def F21Pc : ACode := .region [⟨some (24, false), .mv (.var 2), none⟩, ⟨some (25, false), .call false (.func 20) [(.tmp 24)], none⟩, ⟨some (9, true), .alloc [.nil0], none⟩, ⟨none, .store 1 (.var 9) (.tmp 25), none⟩] none
def F21Pd : ACode := .seq (.region [⟨some (26, false), .load none (.var 9), none⟩, ⟨some (27, false), .len 1 (.tmp 26), none⟩, ⟨some (28, false), .bin .lss (.tmp 27) (.const (.int .i64 3)), none⟩, ⟨some (29, false), .mv (.tmp 28), none⟩, ⟨some (30, false), .load none (.var 9), some ((.tmp 29), false)⟩, ⟨some (31, false), .indexAddr 1 (.tmp 30) (.const (.int .i64 0)), some ((.tmp 29), false)⟩, ⟨some (32, false), .load none (.tmp 31), some ((.tmp 29), false)⟩, ⟨some (33, false), .call false (.func 50) [(.tmp 32)], some ((.tmp 29), false)⟩, ⟨some (34, false), .bin .neq (.tmp 33) (.const (.int .i64 1)), some ((.tmp 29), false)⟩, ⟨some (35, false), .pick (.tmp 29) (.const (.bool true)) (.tmp 34), none⟩, ⟨some (36, false), .mv (.tmp 35), none⟩, ⟨some (37, false), .load none (.var 9), some ((.tmp 36), false)⟩, ⟨some (38, false), .indexAddr 1 (.tmp 37) (.const (.int .i64 1)), some ((.tmp 36), false)⟩, ⟨some (39, false), .load none (.tmp 38), some ((.tmp 36), false)⟩, ⟨some (40, false), .bin .neq (.tmp 39) (.const (.str [40])), some ((.tmp 36), false)⟩, ⟨some (41, false), .pick (.tmp 36) (.const (.bool true)) (.tmp 40), none⟩, ⟨some (42, false), .mv (.tmp 41), none⟩, ⟨some (43, false), .load none (.var 9), some ((.tmp 42), false)⟩, ⟨some (44, false), .load none (.var 9), some ((.tmp 42), false)⟩, ⟨some (45, false), .len 1 (.tmp 44), some ((.tmp 42), false)⟩, ⟨some (46, false), .bin .sub (.tmp 45) (.const (.int .i64 1)), some ((.tmp 42), false)⟩, ⟨some (47, false), .indexAddr 1 (.tmp 43) (.tmp 46), some ((.tmp 42), false)⟩, ⟨some (48, false), .load none (.tmp 47), some ((.tmp 42), false)⟩, ⟨some (49, false), .bin .neq (.tmp 48) (.const (.str [41])), some ((.tmp 42), false)⟩, ⟨some (50, true), .pick (.tmp 42) (.const (.bool true)) (.tmp 49), none⟩] none) (.cond (.var 50) (.seq (.region [⟨some (6, true), .mv (.const (.int .i64 0)), none⟩, ⟨some (7, true), .mv (.const (.int .i64 0)), none⟩, ⟨some (8, true), .mv (.const (.int .i64 3)), none⟩] none) (.ret)) (.skip))
def F21Pe : ACode := .region [⟨some (51, false), .load none (.var 9), none⟩, ⟨some (52, false), .load none (.var 9), none⟩, ⟨some (53, false), .len 1 (.tmp 52), none⟩, ⟨some (54, false), .bin .sub (.tmp 53) (.const (.int .i64 1)), none⟩, ⟨some (55, false), .sliceL 1 (.tmp 51) (some (.const (.int .i64 2))) (some (.tmp 54)) none, none⟩, ⟨some (10, true), .mv (.tmp 55), none⟩] none
def F21Pf : ACode := .seq (.region [⟨some (56, false), .mv (.var 10), none⟩, ⟨some (57, false), .len 1 (.tmp 56), none⟩, ⟨some (58, false), .bin .gtr (.tmp 57) (.const (.int .i64 0)), none⟩, ⟨some (59, false), .mv (.tmp 58), none⟩, ⟨some (60, false), .mv (.var 10), some ((.tmp 59), true)⟩, ⟨some (61, false), .len 1 (.tmp 60), some ((.tmp 59), true)⟩, ⟨some (62, false), .bin .rem (.tmp 61) (.const (.int .i64 2)), some ((.tmp 59), true)⟩, ⟨some (63, false), .bin .eql (.tmp 62) (.const (.int .i64 0)), some ((.tmp 59), true)⟩, ⟨some (64, true), .pick (.tmp 59) (.tmp 63) (.const (.bool false)), none⟩] none) (.cond (.var 64) (.seq (.region [⟨some (6, true), .mv (.const (.int .i64 0)), none⟩, ⟨some (7, true), .mv (.const (.int .i64 0)), none⟩, ⟨some (8, true), .mv (.const (.int .i64 3)), none⟩] none) (.ret)) (.skip))
def F21Pg : ACode := .region [⟨some (11, true), .mv (.const (.nil0)), none⟩] none
def F21Ph : ACode := .region [⟨some (12, true), .mv (.const (.bool true)), none⟩] none
def F21Pi : ACode := .seq (.region [⟨some (65, true), .mv (.var 10), none⟩, ⟨some (66, true), .len 1 (.var 65), none⟩, ⟨some (67, true), .mv (.const (.int .i64 0)), none⟩] none) (.block 0 (.loop (rangeBody 68 66 67 93 1 0 F21L0)))
def F21Pj : ACode := .region [⟨some (94, false), .mv (.var 1), none⟩, ⟨some (95, false), .mkFn 53 [] [(.var 9)], none⟩, ⟨some (96, false), .call false (.func 52) [(.tmp 94), (.tmp 95)], none⟩, ⟨some (17, true), .mv (.tmp 96), none⟩] none
def F21Pk : ACode := .seq (.region [⟨some (97, false), .mv (.var 17), none⟩, ⟨some (98, true), .bin .lss (.tmp 97) (.const (.int .i64 0)), none⟩] none) (.cond (.var 98) (.seq (.region [⟨some (6, true), .mv (.const (.int .i64 0)), none⟩, ⟨some (7, true), .mv (.const (.int .i64 0)), none⟩, ⟨some (8, true), .mv (.const (.int .i64 4)), none⟩] none) (.ret)) (.skip))
def F21Pl : ACode := .region [⟨some (100, false), .mv (.var 0), none⟩, ⟨some (101, false), .mv (.var 1), none⟩, ⟨some (102, false), .mv (.var 17), none⟩, ⟨some (103, false), .mv (.var 11), none⟩, ⟨some (104, false), .call false (.func 10) [(.tmp 100), (.tmp 101), (.tmp 102), (.tmp 103)], none⟩, ⟨some (99, false), .mv (.tmp 104), none⟩, ⟨some (105, false), .extract (.tmp 99) 0, none⟩, ⟨some (106, false), .extract (.tmp 99) 1, none⟩, ⟨some (18, true), .mv (.tmp 105), none⟩, ⟨some (19, true), .mv (.tmp 106), none⟩] none
def F21Pm : ACode := .seq (.region [⟨some (107, false), .mv (.var 19), none⟩, ⟨some (108, false), .bin .neq (.tmp 107) (.const (.int .i64 0)), none⟩, ⟨some (109, false), .mv (.tmp 108), none⟩, ⟨some (110, false), .mv (.var 12), some ((.tmp 109), false)⟩, ⟨some (111, false), .un .not (.tmp 110), some ((.tmp 109), false)⟩, ⟨some (112, true), .pick (.tmp 109) (.const (.bool true)) (.tmp 111), none⟩] none) (.cond (.var 112) (.seq (.region [⟨some (6, true), .mv (.const (.int .i64 0)), none⟩, ⟨some (7, true), .mv (.const (.int .i64 0)), none⟩, ⟨some (8, true), .mv (.const (.int .i64 2)), none⟩] none) (.ret)) (.skip))
def F21Pn : ACode := .region [⟨some (113, false), .mv (.var 17), none⟩, ⟨some (114, false), .mv (.var 18), none⟩, ⟨some (6, true), .mv (.tmp 113), none⟩, ⟨some (7, true), .mv (.tmp 114), none⟩, ⟨some (8, true), .mv (.const (.int .i64 0)), none⟩] none
def F21Po : ACode := .ret
theorem F21C_parts : F21C = .seq F21Pa (.seq F21Pb (.seq F21Pc (.seq F21Pd (.seq F21Pe (.seq F21Pf (.seq F21Pg (.seq F21Ph (.seq F21Pi (.seq F21Pj (.seq F21Pk (.seq F21Pl (.seq F21Pm (.seq F21Pn (F21Po)))))))))))))) := rfl
end Go.Abs.T09
/- cells.Parse reads what the words of a cell's text say. -/
namespace Go.Abs.T09
open Go Go.Abs

theorem cws_len (name : List UInt8) (ds : List Int) : (cws name ds).length = (dl ds).length + 3 := by simp [cws]
def wV (name : List UInt8) (ds : List Int) : List V := (cws name ds).map .str
theorem wV_len (name : List UInt8) (ds : List Int) : (wV name ds).length = (dl ds).length + 3 := by rw [wV, List.length_map, cws_len]
theorem wV_0 (name : List UInt8) (ds : List Int) : (wV name ds)[0]? = some (.str name) := rfl
theorem wV_1 (name : List UInt8) (ds : List Int) : (wV name ds)[1]? = some (.str [40]) := rfl
theorem wV_z (name : List UInt8) (ds : List Int) : (wV name ds)[(dl ds).length + 2]? = some (.str [41]) := by
  simp only [wV, cws, List.map_cons, List.map_append, List.getElem?_cons_succ]
  rw [List.getElem?_append_right (by simp)]
  simp
theorem wV_mid (name : List UInt8) (ds : List Int) : ((wV name ds).take ((dl ds).length + 2)).drop 2 = (dl ds).map .str := by
  have e : wV name ds = [V.str name, .str [40]] ++ ((dl ds).map .str ++ [.str [41]]) := by simp [wV, cws]
  rw [e, List.take_append]
  simp

structure PS (sv tv : V) (p : Nat) (e : Env) : Prop where
  v0 : lookupE e 0 = sv
  v1 : lookupE e 1 = tv
  v9 : lookupE e 9 = .ptr p 0

theorem execOps_ap (call : CallT) : ∀ (l1 l2 : List AOper) (st : St) (wr : List Bool), execOps call (l1 ++ l2) st wr = match execOps call l1 st wr with | some (st', wr') => execOps call l2 st' wr'.reverse | none => none
  | [], l2, st, wr => by simp [execOps]
  | o :: r, l2, st, wr => by
    simp only [List.cons_append, execOps]
    cases wantedA st.tE st.vE o.guard with
    | none => rfl
    | some b =>
      cases b with
      | false => exact execOps_ap call r l2 _ _
      | true =>
        simp only
        cases stepC call (Opd.ev st.tE st.vE) st.H st.H.length o.op with
        | none => rfl
        | some p => exact execOps_ap call r l2 _ _

def F21D1 : List AOper := [⟨some (26, false), .load none (.var 9), none⟩, ⟨some (27, false), .len 1 (.tmp 26), none⟩, ⟨some (28, false), .bin .lss (.tmp 27) (.const (.int .i64 3)), none⟩, ⟨some (29, false), .mv (.tmp 28), none⟩, ⟨some (30, false), .load none (.var 9), some ((.tmp 29), false)⟩, ⟨some (31, false), .indexAddr 1 (.tmp 30) (.const (.int .i64 0)), some ((.tmp 29), false)⟩, ⟨some (32, false), .load none (.tmp 31), some ((.tmp 29), false)⟩, ⟨some (33, false), .call false (.func 50) [(.tmp 32)], some ((.tmp 29), false)⟩, ⟨some (34, false), .bin .neq (.tmp 33) (.const (.int .i64 1)), some ((.tmp 29), false)⟩, ⟨some (35, false), .pick (.tmp 29) (.const (.bool true)) (.tmp 34), none⟩, ⟨some (36, false), .mv (.tmp 35), none⟩]
def F21D2 : List AOper := [⟨some (37, false), .load none (.var 9), some ((.tmp 36), false)⟩, ⟨some (38, false), .indexAddr 1 (.tmp 37) (.const (.int .i64 1)), some ((.tmp 36), false)⟩, ⟨some (39, false), .load none (.tmp 38), some ((.tmp 36), false)⟩, ⟨some (40, false), .bin .neq (.tmp 39) (.const (.str [40])), some ((.tmp 36), false)⟩, ⟨some (41, false), .pick (.tmp 36) (.const (.bool true)) (.tmp 40), none⟩, ⟨some (42, false), .mv (.tmp 41), none⟩]
def F21D3 : List AOper := [⟨some (43, false), .load none (.var 9), some ((.tmp 42), false)⟩, ⟨some (44, false), .load none (.var 9), some ((.tmp 42), false)⟩, ⟨some (45, false), .len 1 (.tmp 44), some ((.tmp 42), false)⟩, ⟨some (46, false), .bin .sub (.tmp 45) (.const (.int .i64 1)), some ((.tmp 42), false)⟩, ⟨some (47, false), .indexAddr 1 (.tmp 43) (.tmp 46), some ((.tmp 42), false)⟩, ⟨some (48, false), .load none (.tmp 47), some ((.tmp 42), false)⟩, ⟨some (49, false), .bin .neq (.tmp 48) (.const (.str [41])), some ((.tmp 42), false)⟩, ⟨some (50, true), .pick (.tmp 42) (.const (.bool true)) (.tmp 49), none⟩]
theorem F21Pd_cut : F21Pd = .seq (.region (F21D1 ++ (F21D2 ++ F21D3)) none) (.cond (.var 50) (.seq (.region [⟨some (6, true), .mv (.const (.int .i64 0)), none⟩, ⟨some (7, true), .mv (.const (.int .i64 0)), none⟩, ⟨some (8, true), .mv (.const (.int .i64 3)), none⟩] none) (.ret)) (.skip)) := rfl

section
variable {sv tv : V} {name : List UInt8} {W : List V} {p n m : Nat} {H : Heap} {st : St} {wr : List Bool}
set_option maxHeartbeats 1000000 in
theorem d_1 (hk : callL tab (.fn 50 [] []) [.str name] H = some (.int .i64 1, H, H.length)) (hp : H[p]? = some (.cells [.list 1 W])) (hwl : W.length = m + 3) (h0 : W[0]? = some (.str name)) (h1 : st.H = H) (h2 : st.low = n) (hnH : n ≤ H.length) (l9 : lookupE st.vE 9 = .ptr p 0) :
    ∃ tE' wr', execOps (callL tab) F21D1 st wr = some ({ st with tE := tE' }, wr') ∧ lookupE tE' 36 = .bool false := by
  obtain ⟨tE, vE, H', low, ro⟩ := st
  simp only at h1 h2 l9
  subst h1; subst h2
  have hpE : ∀ h : p < H'.length, H'[p]'h = .cells [.list 1 W] := fun h => by rw [List.getElem?_eq_getElem h] at hp; exact Option.some.inj hp
  have n0 : min low H'.length = low := Nat.min_eq_left hnH
  have hsl : slE 1 (V.list 1 W) = true := rfl
  have hel : el (V.list 1 W) = W := rfl
  have hlt : ¬ ((m : Int) + 3) < 3 := by omega
  have hn0 : natOf (.int .i64 0) = some 0 := rfl
  have hwl0 : 0 < W.length := by omega
  have h0E : ∀ h : 0 < W.length, W[0]'h = .str name := fun h => by rw [List.getElem?_eq_getElem h] at h0; exact Option.some.inj h0
  exact ⟨_, _, by simp [F21D1, callBody, zipE, execL_seq, execL_region, execL_cond, execL_skip, execL_ret, execL_exit, execL_block, execOps, wantedA, S_mv, S_pick, S_bin, S_un, S_call0, S_call1, S_extract, S_nilEq, S_load, S_alloc, Opd.ev, lookupE, lookE_setE, St.put, binA, unA, boolOf, freezeVs, freezeV, freeze1, isP, isPs, resultsA, resultA, finish, old, olds, flat, movedH_same, Nat.min_self, loadA, readCells, cellsV_int, l9, hp, hpE, n0, S_len 1, hsl, hel, hwl, hlt, S_index, hn0, h0, h0E, hwl0, cellsV_st, hk]; exact ⟨rfl, rfl⟩, by simp [lookupE]⟩
set_option maxHeartbeats 1000000 in
theorem d_2 (hp : H[p]? = some (.cells [.list 1 W])) (hwl : W.length = m + 3) (h0 : W[1]? = some (.str [40])) (h1 : st.H = H) (h2 : st.low = n) (hnH : n ≤ H.length) (l9 : lookupE st.vE 9 = .ptr p 0) (ht : lookupE st.tE 36 = .bool false) :
    ∃ tE' wr', execOps (callL tab) F21D2 st wr = some ({ st with tE := tE' }, wr') ∧ lookupE tE' 42 = .bool false := by
  obtain ⟨tE, vE, H', low, ro⟩ := st
  simp only at h1 h2 l9 ht
  subst h1; subst h2
  have hpE : ∀ h : p < H'.length, H'[p]'h = .cells [.list 1 W] := fun h => by rw [List.getElem?_eq_getElem h] at hp; exact Option.some.inj hp
  have n0 : min low H'.length = low := Nat.min_eq_left hnH
  have hsl : slE 1 (V.list 1 W) = true := rfl
  have hel : el (V.list 1 W) = W := rfl
  have hn1 : natOf (.int .i64 1) = some 1 := rfl
  have hwl0 : 1 < W.length := by omega
  have h0E : ∀ h : 1 < W.length, W[1]'h = .str [40] := fun h => by rw [List.getElem?_eq_getElem h] at h0; exact Option.some.inj h0
  exact ⟨_, _, by simp [F21D2, callBody, zipE, execL_seq, execL_region, execL_cond, execL_skip, execL_ret, execL_exit, execL_block, execOps, wantedA, S_mv, S_pick, S_bin, S_un, S_call0, S_call1, S_extract, S_nilEq, S_load, S_alloc, Opd.ev, lookupE, lookE_setE, St.put, binA, unA, boolOf, freezeVs, freezeV, freeze1, isP, isPs, resultsA, resultA, finish, old, olds, flat, movedH_same, Nat.min_self, loadA, readCells, cellsV_int, l9, ht, hp, hpE, n0, hsl, hel, hwl, S_index, hn1, h0, h0E, hwl0, cellsV_st]; exact ⟨rfl, rfl⟩, by simp [lookupE]⟩
set_option maxHeartbeats 1000000 in
theorem d_3 (hm : m ≤ 100) (hp : H[p]? = some (.cells [.list 1 W])) (hwl : W.length = m + 3) (h0 : W[m + 2]? = some (.str [41])) (h1 : st.H = H) (h2 : st.low = n) (hnH : n ≤ H.length) (l9 : lookupE st.vE 9 = .ptr p 0) (ht : lookupE st.tE 42 = .bool false) :
    ∃ tE' wr', execOps (callL tab) F21D3 st wr = some ({ st with tE := tE', vE := setE st.vE 50 (.bool false) }, wr') := by
  obtain ⟨tE, vE, H', low, ro⟩ := st
  simp only at h1 h2 l9 ht
  subst h1; subst h2
  have hpE : ∀ h : p < H'.length, H'[p]'h = .cells [.list 1 W] := fun h => by rw [List.getElem?_eq_getElem h] at hp; exact Option.some.inj hp
  have n0 : min low H'.length = low := Nat.min_eq_left hnH
  have hsl : slE 1 (V.list 1 W) = true := rfl
  have hel : el (V.list 1 W) = W := rfl
  have hw : IntKind.i64.wrap ((m : Int) + 3 - 1) = ((m + 2 : Nat) : Int) := by rw [wrap_small] <;> omega
  have hnz : natOf (.int .i64 ((m + 2 : Nat) : Int)) = some (m + 2) := natOf_cast _ _
  have hwl0 : m + 2 < W.length := by omega
  have h0E : ∀ h : m + 2 < W.length, W[m + 2]'h = .str [41] := fun h => by rw [List.getElem?_eq_getElem h] at h0; exact Option.some.inj h0
  generalize hz : ((m + 2 : Nat) : Int) = z at *
  exact ⟨_, _, by simp [F21D3, callBody, zipE, execL_seq, execL_region, execL_cond, execL_skip, execL_ret, execL_exit, execL_block, execOps, wantedA, S_mv, S_pick, S_bin, S_un, S_call0, S_call1, S_extract, S_nilEq, S_load, S_alloc, Opd.ev, lookupE, lookE_setE, St.put, binA, unA, boolOf, freezeVs, freezeV, freeze1, isP, isPs, resultsA, resultA, finish, old, olds, flat, movedH_same, Nat.min_self, loadA, readCells, cellsV_int, l9, ht, hp, hpE, n0, S_len 1, hsl, hel, hwl, hw, S_index, hnz, h0, h0E, hwl0, cellsV_st]; exact ⟨rfl, rfl⟩⟩
end

section
variable {sv tv : V} {name : List UInt8} {ds : List Int} {p n : Nat} {H : Heap} {st : St}

theorem p_d (hn : nameOk name = true) (hl : ds.length ≤ 3) (hp : H[p]? = some (.cells [.list 1 (wV name ds)])) (h1 : st.H = H) (h2 : st.low = n) (hnH : n ≤ H.length) (w : PS sv tv p st.vE) :
    ∃ st', execL tab F21Pd st = some (.normal, st') ∧ st'.H = H ∧ st'.low = n ∧ PS sv tv p st'.vE := by
  have hk := kindF_s name H
  rw [kind_name hn] at hk
  unfold Ans at hk
  have hdl := dl_length ds
  obtain ⟨t1, r1, d1, e1⟩ := d_1 (wr := []) (st := { st with tE := [] }) hk hp (wV_len name ds) (wV_0 name ds) h1 h2 hnH w.v9
  obtain ⟨t2, r2, d2, e2⟩ := d_2 (wr := r1.reverse) (st := { st with tE := t1 }) hp (wV_len name ds) (wV_1 name ds) h1 h2 hnH w.v9 e1
  obtain ⟨t3, r3, d3⟩ := d_3 (wr := r2.reverse) (st := { st with tE := t2 }) (m := (dl ds).length) (by omega) hp (wV_len name ds) (wV_z name ds) h1 h2 hnH w.v9 e2
  refine ⟨{ st with tE := [], vE := setE st.vE 50 (.bool false) }, ?_, h1, h2, ⟨by simp [lookE_setE, w.v0], by simp [lookE_setE, w.v1], by simp [lookE_setE, w.v9]⟩⟩
  rw [F21Pd_cut, execL_seq, execL_region, execOps_ap, d1]
  simp only []
  rw [execOps_ap, d2]
  simp only []
  rw [d3]
  simp only []
  rw [execL_cond]
  simp [Opd.ev, lookE_setE, execL_skip]
end
end Go.Abs.T09
/- cells.Parse reads what the words of a cell's text say: the rest. -/
namespace Go.Abs.T09
open Go Go.Abs

theorem PS.set {sv tv : V} {p : Nat} {e e' : Env} (w : PS sv tv p e) (h : ∀ s, s = 0 ∨ s = 1 ∨ s = 9 → lookupE e' s = lookupE e s) : PS sv tv p e' :=
  ⟨by rw [h 0 (.inl rfl)]; exact w.v0, by rw [h 1 (.inr (.inl rfl))]; exact w.v1, by rw [h 9 (.inr (.inr rfl))]; exact w.v9⟩

def lV (ds : List Int) : V := .list 1 ((dl ds).map .str)

section
variable {sv tv : V} {name : List UInt8} {ds : List Int} {p n : Nat} {H : Heap} {st : St}

set_option maxHeartbeats 1000000 in
theorem p_e (hl : ds.length ≤ 3) (hp : H[p]? = some (.cells [.list 1 (wV name ds)])) (h1 : st.H = H) (h2 : st.low = n) (hnH : n ≤ H.length) (w : PS sv tv p st.vE) :
    ∃ st', execL tab F21Pe st = some (.normal, st') ∧ st'.H = H ∧ st'.low = n ∧ PS sv tv p st'.vE ∧ lookupE st'.vE 10 = lV ds := by
  have hpE : ∀ h : p < H.length, H[p]'h = .cells [.list 1 (wV name ds)] := fun h => by rw [List.getElem?_eq_getElem h] at hp; exact Option.some.inj hp
  have n0 : min n H.length = n := Nat.min_eq_left hnH
  have hdl := dl_length ds
  have hsl : slE 1 (V.list 1 (wV name ds)) = true := rfl
  have hel : el (V.list 1 (wV name ds)) = wV name ds := rfl
  have hwl := wV_len name ds
  have hmid := wV_mid name ds
  generalize hW : wV name ds = W at *
  unfold lV
  generalize hm : (dl ds).length = m at *
  have hw : IntKind.i64.wrap ((m : Int) + 3 - 1) = ((m + 2 : Nat) : Int) := by rw [wrap_small] <;> omega
  have hnz : natOf (.int .i64 ((m + 2 : Nat) : Int)) = some (m + 2) := natOf_cast _ _
  have hn2 : natOf (.int .i64 2) = some 2 := rfl
  have hle : 2 ≤ m + 2 ∧ m + 2 ≤ m + 3 := by omega
  generalize hz : ((m + 2 : Nat) : Int) = z at *
  refine ⟨_, by simp [F21Pe, callBody, zipE, execL_seq, execL_region, execL_cond, execL_skip, execL_ret, execL_exit, execL_block, execOps, wantedA, S_mv, S_pick, S_bin, S_un, S_call0, S_call1, S_extract, S_nilEq, S_load, S_alloc, Opd.ev, lookupE, lookE_setE, St.put, binA, unA, boolOf, freezeVs, freezeV, freeze1, isP, isPs, resultsA, resultA, finish, old, olds, flat, movedH_same, Nat.min_self, loadA, readCells, cellsV_int, h1, h2, w.v9, hp, hpE, n0, S_len 1, hsl, hel, hwl, hw, S_sliceL, step, bnd, hnz, hn2, hle, hmid]; rfl, ?_⟩
  exact ⟨by simp [h1], by simp [h2], w.set (fun s hs => by rcases hs with rfl | rfl | rfl <;> simp [lookE_setE]), by simp [lookE_setE]⟩

theorem p_f (h1 : st.H = H) (h2 : st.low = n) (hnH : n ≤ H.length) (w : PS sv tv p st.vE) (l10 : lookupE st.vE 10 = lV ds) :
    ∃ st', execL tab F21Pf st = some (.normal, st') ∧ st'.H = H ∧ st'.low = n ∧ PS sv tv p st'.vE ∧ lookupE st'.vE 10 = lV ds := by
  have n0 : min n H.length = n := Nat.min_eq_left hnH
  have hdl := dl_length ds
  have hsl : slE 1 (lV ds) = true := rfl
  have hel : (el (lV ds)).length = (dl ds).length := by simp [lV, el]
  by_cases hd : ds = []
  · have hz : (dl ds).length = 0 := by rw [hd]; rfl
    rw [hz] at hel
    refine ⟨_, by simp [F21Pf, callBody, zipE, execL_seq, execL_region, execL_cond, execL_skip, execL_ret, execL_exit, execL_block, execOps, wantedA, S_mv, S_pick, S_bin, S_un, S_call0, S_call1, S_extract, S_nilEq, S_load, S_alloc, Opd.ev, lookupE, lookE_setE, St.put, binA, unA, boolOf, freezeVs, freezeV, freeze1, isP, isPs, resultsA, resultA, finish, old, olds, flat, movedH_same, Nat.min_self, loadA, readCells, cellsV_int, h1, h2, l10, n0, S_len 1, hsl, hel]; rfl, ?_⟩
    exact ⟨by simp [h1], by simp [h2], w.set (fun s hs => by rcases hs with rfl | rfl | rfl <;> simp [lookE_setE]), by simp [lookE_setE, l10]⟩
  · have hpos : 0 < ds.length := List.length_pos_iff.2 hd
    have hpi : (0 : Int) < ((dl ds).length : Int) := by omega
    have hpi2 : 0 < (dl ds).length := by omega
    have hmod : (((dl ds).length : Int).tmod 2 == 0) = false := by
      rw [Int.tmod_eq_emod_of_nonneg (by omega)]
      simp
      omega
    generalize (dl ds).length = m at *
    refine ⟨_, by simp [F21Pf, callBody, zipE, execL_seq, execL_region, execL_cond, execL_skip, execL_ret, execL_exit, execL_block, execOps, wantedA, S_mv, S_pick, S_bin, S_un, S_call0, S_call1, S_extract, S_nilEq, S_load, S_alloc, Opd.ev, lookupE, lookE_setE, St.put, binA, unA, boolOf, freezeVs, freezeV, freeze1, isP, isPs, resultsA, resultA, finish, old, olds, flat, movedH_same, Nat.min_self, loadA, readCells, cellsV_int, h1, h2, l10, n0, S_len 1, hsl, hel, hpi, hpi2, hmod]; rfl, ?_⟩
    exact ⟨by simp [h1], by simp [h2], w.set (fun s hs => by rcases hs with rfl | rfl | rfl <;> simp [lookE_setE]), by simp [lookE_setE, l10]⟩

set_option maxHeartbeats 2000000 in
theorem p_i (h6 : In6 ds) (hl : ds.length ≤ 3) (hp : H[n]? = some (.cells [.list 1 (wV name ds)])) (hHl : H.length = n + 1) (h1 : st.H = H) (h2 : st.low = n) (w : PS sv tv n st.vE) (l10 : lookupE st.vE 10 = lV ds) (l11 : lookupE st.vE 11 = .nil0) (l12 : lookupE st.vE 12 = .bool true) :
    ∃ st' u, execL tab F21Pi st = some (.normal, st') ∧ st'.low = n ∧ n < st'.H.length ∧ st'.H[n]? = some (.cells [.list 1 (wV name ds)]) ∧ PS sv tv n st'.vE ∧ lookupE st'.vE 12 = .bool true ∧ lookupE st'.vE 11 = u ∧ RowV .nil0 (n + 1) st'.H u (ds.map (.int .i64)) := by
  have hdl := dl_length ds
  have hsl : slE 1 (lV ds) = true := rfl
  have hel : (el (lV ds)).length = (dl ds).length := by simp [lV, el]
  have hn1 : min n H.length = n := by omega
  obtain ⟨s0, a1, a2, a3, a4, a5, a6, a7, a8, a9⟩ : ∃ s0, execL tab (.region [⟨some (65, true), .mv (.var 10), none⟩, ⟨some (66, true), .len 1 (.var 65), none⟩, ⟨some (67, true), .mv (.const (.int .i64 0)), none⟩] none) st = some (.normal, s0) ∧ s0.H = H ∧ s0.low = n ∧ PS sv tv n s0.vE ∧ lookupE s0.vE 65 = lV ds ∧ lookupE s0.vE 66 = .int .i64 (dl ds).length ∧ lookupE s0.vE 67 = .int .i64 (0 : Nat) ∧ lookupE s0.vE 11 = .nil0 ∧ lookupE s0.vE 12 = .bool true := by
    refine ⟨_, by simp [callBody, zipE, execL_seq, execL_region, execL_cond, execL_skip, execL_ret, execL_exit, execL_block, execOps, wantedA, S_mv, S_pick, S_bin, S_un, S_call0, S_call1, S_extract, S_nilEq, S_load, S_alloc, Opd.ev, lookupE, lookE_setE, St.put, binA, unA, boolOf, freezeVs, freezeV, freeze1, isP, isPs, resultsA, resultA, finish, old, olds, flat, movedH_same, Nat.min_self, loadA, readCells, cellsV_int, h1, h2, l10, hn1, S_len 1, hsl, hel]; rfl, ?_⟩
    exact ⟨by simp [h1], by simp [h2], w.set (fun s hs => by rcases hs with rfl | rfl | rfl <;> simp [lookE_setE]), by simp [lookE_setE], by simp [lookE_setE], by simp [lookE_setE], by simp [lookE_setE, l11], by simp [lookE_setE, l12]⟩
  have key := range_loop (tab := tab) (b := 68) (n := 66) (i := 67) (t := 93) (blk := 1) (ex := 0) (body := F21L0)
    (I := fun k s => n < s.H.length ∧ s.low = n ∧ s.H[n]? = some (.cells [.list 1 (wV name ds)]) ∧ PS sv tv n s.vE ∧ lookupE s.vE 65 = lV ds ∧ lookupE s.vE 66 = .int .i64 (dl ds).length ∧ lookupE s.vE 67 = .int .i64 k ∧ lookupE s.vE 12 = .bool true ∧ ∃ u, lookupE s.vE 11 = u ∧ RowV .nil0 (n + 1) s.H u ((ds.take ((k + 1) / 2)).map (.int .i64)))
    (Q := fun x s => x = .exit 0 ∧ n < s.H.length ∧ s.low = n ∧ s.H[n]? = some (.cells [.list 1 (wV name ds)]) ∧ PS sv tv n s.vE ∧ lookupE s.vE 12 = .bool true ∧ ∃ u, lookupE s.vE 11 = u ∧ RowV .nil0 (n + 1) s.H u (ds.map (.int .i64)))
    (N := (dl ds).length) (by omega) (by decide) (by decide)
    (fun k s h => ⟨h.2.2.2.2.2.2.1, h.2.2.2.2.2.1, by rw [h.2.1]; exact Nat.le_of_lt h.1⟩)
    (by
      rintro k s hk ⟨q1, q2, q3, q4, q5, q6, q7, q8, u, q9, q10⟩
      have n0 : min n s.H.length = n := Nat.min_eq_left (by omega)
      rcases Nat.mod_two_eq_zero_or_one k with hm | hm
      · -- a number
        obtain ⟨j, rfl⟩ : ∃ j, k = 2 * j := ⟨k / 2, by omega⟩
        obtain ⟨d, hd, hw⟩ := dl_even ds j (by omega)
        have hd6 := h6 d (List.mem_of_getElem? hd)
        have hgk : (el (lV ds))[2 * j]? = some (.str [dgt d]) := by simp [lV, el, hw]
        have hK := kindF_s [dgt d] s.H
        rw [kind_dgt hd6.1 hd6.2] at hK
        have hN := num_s hd6.1 hd6.2 s.H
        unfold Ans at hK hN
        have hmod : (((2 * j : Nat) : Int).tmod 2 == 1) = false := by
          rw [Int.tmod_eq_emod_of_nonneg (by omega)]
          first | (simp; done) | (simp; omega)
        have e1 : (2 * j + 1) / 2 = j := by omega
        have e2 : (2 * j + 1 + 1) / 2 = j + 1 := by omega
        rw [e1] at q10
        have htake : (ds.take (j + 1)).map (V.int .i64) = (ds.take j).map (.int .i64) ++ [.int .i64 d] := by rw [List.take_add_one, hd]; simp
        have hjl : j < ds.length := by omega
        have hlj : ((ds.take j).map (V.int .i64)).length = j := by simp; omega
        generalize hkk : (((2 * j : Nat)) : Int) = kk at *
        have hnat : natOf (.int .i64 kk) = some (2 * j) := by rw [← hkk]; exact natOf_cast _ _
        rcases q10 with ⟨e, rfl⟩ | ⟨e, q, g1, g2, rfl, g4⟩
        · have : ∃ s2, execL tab F21L0 { s with tE := [], vE := setE s.vE 68 (.bool true) } = some (.normal, s2) ∧ s2.H = s.H ++ [.row 1 [.int .i64 d] false] ∧ s2.low = n ∧ lookupE s2.vE 11 = .sref s.H.length 1 0 1 1 ∧ lookupE s2.vE 12 = .bool true ∧ ∀ t, t = 0 ∨ t = 1 ∨ t = 9 ∨ t = 65 ∨ t = 66 ∨ t = 67 → lookupE s2.vE t = lookupE s.vE t := by
            refine ⟨_, by simp (maxSteps := 1000000) [F21L0, callBody, zipE, execL_seq, execL_region, execL_cond, execL_skip, execL_ret, execL_exit, execL_block, execOps, wantedA, S_mv, S_pick, S_bin, S_un, S_call0, S_call1, S_extract, S_nilEq, S_load, S_alloc, Opd.ev, lookupE, lookE_setE, St.put, binA, unA, boolOf, freezeVs, freezeV, freeze1, isP, isPs, resultsA, resultA, finish, old, olds, flat, movedH_same, Nat.min_self, loadA, readCells, cellsV_int, q2, q5, q7, q8, q9, n0, S_index, hsl, hnat, hgk, cellsV_st, hmod, hK, hN, S_lit, S_append, step, fillL, zeroElem, elems, cellsOk, cellOk]; rfl, ?_⟩
            exact ⟨by simp, by first | (simp; done) | (simp; omega), by simp [lookE_setE], by simp [lookE_setE], fun t ht => by rcases ht with rfl | rfl | rfl | rfl | rfl | rfl <;> simp [lookE_setE]⟩
          obtain ⟨s2, c1, c2, c3, c4, c5, c6⟩ := this
          refine ⟨.normal, s2, c1, ?_⟩
          simp only [true_or, if_true]
          have hg2 : s2.H[n]? = some (.cells [.list 1 (wV name ds)]) := by rw [c2]; exact get_app q3 _
          refine ⟨by rw [c6 67 (by simp), q7, ← hkk], by rw [c3, c2]; simp; omega, by show n < s2.H.length; rw [c2]; simp; omega, c3, hg2, (q4.set (fun t ht => c6 t (by rcases ht with rfl | rfl | rfl <;> simp))).set (fun t ht => by rcases ht with rfl | rfl | rfl <;> simp [lookE_setE]), by simp [lookE_setE, c6, q5], by simp [lookE_setE, c6, q6], by simp [lookE_setE], by simp [lookE_setE, c5], _, by simp [lookE_setE, c4]; rfl, ?_⟩
          rw [e2, htake, e]
          refine .inr ⟨by simp, s.H.length, by omega, by show _ < s2.H.length; rw [c2]; simp, rfl, ?_⟩
          show s2.H[_]? = _
          rw [c2, get_off0]; rfl
        · have g4E : ∀ h : q < s.H.length, s.H[q]'h = .row 1 ((ds.take j).map (.int .i64)) false := fun h => by rw [List.getElem?_eq_getElem h] at g4; exact Option.some.inj g4
          rw [hlj] at q9
          have hcap : (j + 1) * 9 ≤ 1099511627776 := by omega
          have hjl2 : j ≤ ds.length := by omega
          have hm2 : min n (min s.H.length q) = n := by omega
          have hm3 : min n q = n := by omega
          have : ∃ s2, execL tab F21L0 { s with tE := [], vE := setE s.vE 68 (.bool true) } = some (.normal, s2) ∧ s2.H = s.H.set q (.row 1 ((ds.take j).map (.int .i64) ++ [.int .i64 d]) false) ∧ s2.low = n ∧ lookupE s2.vE 11 = .sref q 1 0 (j + 1) (j + 1) ∧ lookupE s2.vE 12 = .bool true ∧ ∀ t, t = 0 ∨ t = 1 ∨ t = 9 ∨ t = 65 ∨ t = 66 ∨ t = 67 → lookupE s2.vE t = lookupE s.vE t := by
            refine ⟨_, by simp (maxSteps := 1000000) [F21L0, callBody, zipE, execL_seq, execL_region, execL_cond, execL_skip, execL_ret, execL_exit, execL_block, execOps, wantedA, S_mv, S_pick, S_bin, S_un, S_call0, S_call1, S_extract, S_nilEq, S_load, S_alloc, Opd.ev, lookupE, lookE_setE, St.put, binA, unA, boolOf, freezeVs, freezeV, freeze1, isP, isPs, resultsA, resultA, finish, old, olds, flat, movedH_same, Nat.min_self, loadA, readCells, cellsV_int, q2, q5, q7, q8, q9, n0, S_index, hsl, hnat, hgk, cellsV_st, hmod, hK, hN, S_lit, S_append, step, fillL, zeroElem, elems, cellsOk, cellOk, g4, g4E, hlj, hjl2, hcap]; rfl, ?_⟩
            exact ⟨by simp, by first | (simp; done) | (simp; omega), by simp [lookE_setE], by simp [lookE_setE], fun t ht => by rcases ht with rfl | rfl | rfl | rfl | rfl | rfl <;> simp [lookE_setE]⟩
          obtain ⟨s2, c1, c2, c3, c4, c5, c6⟩ := this
          refine ⟨.normal, s2, c1, ?_⟩
          simp only [true_or, if_true]
          have hg2 : s2.H[n]? = some (.cells [.list 1 (wV name ds)]) := by rw [c2, List.getElem?_set_ne (by omega)]; exact q3
          refine ⟨by rw [c6 67 (by simp), q7, ← hkk], by rw [c3, c2]; simp; omega, by show n < s2.H.length; rw [c2]; simp; omega, c3, hg2, (q4.set (fun t ht => c6 t (by rcases ht with rfl | rfl | rfl <;> simp))).set (fun t ht => by rcases ht with rfl | rfl | rfl <;> simp [lookE_setE]), by simp [lookE_setE, c6, q5], by simp [lookE_setE, c6, q6], by simp [lookE_setE], by simp [lookE_setE, c5], _, by simp [lookE_setE, c4]; rfl, ?_⟩
          rw [e2, htake]
          refine .inr ⟨by simp, q, g1, by show _ < s2.H.length; rw [c2]; simp; omega, by simp; omega, ?_⟩
          show s2.H[_]? = _
          rw [c2, List.getElem?_set_self g2]
      · -- a comma
        obtain ⟨j, rfl⟩ : ∃ j, k = 2 * j + 1 := ⟨k / 2, by omega⟩
        have hw := dl_odd ds j hk
        have hgk : (el (lV ds))[2 * j + 1]? = some (.str [44]) := by simp [lV, el, hw]
        have hmod : (((2 * j + 1 : Nat) : Int).tmod 2 == 1) = true := by
          rw [Int.tmod_eq_emod_of_nonneg (by omega)]
          first | (simp; done) | (simp; omega)
        have e1 : (2 * j + 1 + 1) / 2 = j + 1 := by omega
        have e2 : (2 * j + 1 + 1 + 1) / 2 = j + 1 := by omega
        rw [e1] at q10
        generalize hkk : (((2 * j + 1 : Nat)) : Int) = kk at *
        have hnat : natOf (.int .i64 kk) = some (2 * j + 1) := by rw [← hkk]; exact natOf_cast _ _
        have : ∃ s2, execL tab F21L0 { s with tE := [], vE := setE s.vE 68 (.bool true) } = some (.exit 1, s2) ∧ s2.H = s.H ∧ s2.low = n ∧ ∀ t, t = 0 ∨ t = 1 ∨ t = 9 ∨ t = 65 ∨ t = 66 ∨ t = 67 ∨ t = 11 ∨ t = 12 → lookupE s2.vE t = lookupE s.vE t := by
          refine ⟨_, by simp [F21L0, callBody, zipE, execL_seq, execL_region, execL_cond, execL_skip, execL_ret, execL_exit, execL_block, execOps, wantedA, S_mv, S_pick, S_bin, S_un, S_call0, S_call1, S_extract, S_nilEq, S_load, S_alloc, Opd.ev, lookupE, lookE_setE, St.put, binA, unA, boolOf, freezeVs, freezeV, freeze1, isP, isPs, resultsA, resultA, finish, old, olds, flat, movedH_same, Nat.min_self, loadA, readCells, cellsV_int, q2, q5, q7, n0, S_index, hsl, hnat, hgk, cellsV_st, hmod]; rfl, ?_⟩
          exact ⟨by simp, by simp, fun t ht => by rcases ht with rfl | rfl | rfl | rfl | rfl | rfl | rfl | rfl <;> simp [lookE_setE]⟩
        obtain ⟨s2, c1, c2, c3, c6⟩ := this
        refine ⟨.exit 1, s2, c1, ?_⟩
        simp only [or_true, if_true]
        refine ⟨by rw [c6 67 (by simp), q7, ← hkk], by rw [c3, c2]; omega, by show n < s2.H.length; rw [c2]; omega, c3, by show s2.H[n]? = _; rw [c2]; exact q3, (q4.set (fun t ht => c6 t (by rcases ht with rfl | rfl | rfl <;> simp))).set (fun t ht => by rcases ht with rfl | rfl | rfl <;> simp [lookE_setE]), by simp [lookE_setE, c6, q5], by simp [lookE_setE, c6, q6], by simp [lookE_setE], by simp [lookE_setE, c6, q8], u, by simp [lookE_setE, c6, q9], ?_⟩
        rw [e2]
        show RowV _ _ s2.H _ _
        rw [c2]
        exact q10)
    (by
      rintro s ⟨q1, q2, q3, q4, q5, q6, q7, q8, u, q9, q10⟩
      refine ⟨rfl, q1, q2, q3, q4.set (fun t ht => by rcases ht with rfl | rfl | rfl <;> simp [lookE_setE]), by simp [lookE_setE, q8], u, by simp [lookE_setE, q9], ?_⟩
      rw [List.take_of_length_le (by omega)] at q10
      exact q10)
  obtain ⟨x, st', r1, rfl, r2, r3, r4, r5, r6, u, r7, r8⟩ := key (dl ds).length 0 s0 (by omega) ⟨by rw [a2]; omega, a3, by rw [a2]; exact hp, a4, a5, a6, a7, a9, .nil0, a8, .inl ⟨by simp, rfl⟩⟩
  refine ⟨st', u, ?_, r3, r2, r4, r5, r6, r7, r8⟩
  rw [F21Pi, execL_seq, a1]
  simp only []
  rw [execL_block, r1]
  rfl
end
end Go.Abs.T09
/- cells.Parse reads what the words of a cell's text say, whole. -/
namespace Go.Abs.T09
open Go Go.Abs

theorem cellsV_lst2 (es : Nat) (ds : List V) : cellsV (.list es ds) = [.list es ds] := rfl

section
variable {sv tv : V} {name : List UInt8} {ds : List Int} {n : Nat} {H : Heap} {st : St}

set_option maxHeartbeats 1000000 in
theorem p_abc {sizes : List Int} {ts : List Tb} {text : List UInt8} (hs : VI sv sizes) (ht : VT tv ts) (hV : validB sizes ts = true) (hl : text.length ≤ 4096) (hd3 : ds.length ≤ 3) (hx : Lex text (cws name ds))
    (h1 : st.H = H) (h2 : st.low = H.length) (l0 : lookupE st.vE 0 = sv) (l1 : lookupE st.vE 1 = tv) (l2 : lookupE st.vE 2 = .str text) :
    ∃ s1 s2 s3, execL tab F21Pa st = some (.normal, s1) ∧ execL tab F21Pb s1 = some (.normal, s2) ∧ execL tab F21Pc s2 = some (.normal, s3) ∧ s3.H = H ++ [.cells [.list 1 (wV name ds)]] ∧ s3.low = H.length ∧ PS sv tv H.length s3.vE := by
  have hv := valid_s hs ht H
  rw [hV] at hv
  have hdl := dl_length ds
  have hw := words_s hl hx (by rw [cws_len]; omega) H
  have hne : cws name ds ≠ [] := by simp [cws]
  rw [wordsV, if_neg hne] at hw
  unfold Ans at hv hw
  have hW : (cws name ds).map V.str = wV name ds := rfl
  rw [hW] at hw
  have hsp := slE_isP hs.sl
  have htp := slE_isP ht.sl
  obtain ⟨s1, a1, a2, a3, a4⟩ : ∃ s1, execL tab F21Pa st = some (.normal, s1) ∧ s1.H = H ∧ s1.low = H.length ∧ ∀ s, s = 0 ∨ s = 1 ∨ s = 2 → lookupE s1.vE s = lookupE st.vE s :=
    ⟨_, by simp [F21Pa, callBody, zipE, execL_seq, execL_region, execL_cond, execL_skip, execL_ret, execL_exit, execL_block, execOps, wantedA, S_mv, S_pick, S_bin, S_un, S_call0, S_call1, S_extract, S_nilEq, S_load, S_alloc, Opd.ev, lookupE, lookE_setE, St.put, binA, unA, boolOf, freezeVs, freezeV, freeze1, isP, isPs, resultsA, resultA, finish, old, olds, flat, movedH_same, Nat.min_self, loadA, readCells, cellsV_int, h1, h2]; rfl, by simp, by simp, fun s hs => by rcases hs with rfl | rfl | rfl <;> simp [lookE_setE]⟩
  have b0 : lookupE s1.vE 0 = sv := by rw [a4 0 (by simp)]; exact l0
  have b1 : lookupE s1.vE 1 = tv := by rw [a4 1 (by simp)]; exact l1
  have b2 : lookupE s1.vE 2 = .str text := by rw [a4 2 (by simp)]; exact l2
  obtain ⟨s2, c1, c2, c3, c4⟩ : ∃ s2, execL tab F21Pb s1 = some (.normal, s2) ∧ s2.H = H ∧ s2.low = H.length ∧ ∀ s, s = 0 ∨ s = 1 ∨ s = 2 → lookupE s2.vE s = lookupE s1.vE s :=
    ⟨_, by simp [F21Pb, callBody, zipE, execL_seq, execL_region, execL_cond, execL_skip, execL_ret, execL_exit, execL_block, execOps, wantedA, S_mv, S_pick, S_bin, S_un, S_call0, S_call1, S_extract, S_nilEq, S_load, S_alloc, Opd.ev, lookupE, lookE_setE, St.put, binA, unA, boolOf, freezeVs, freezeV, freeze1, isP, isPs, resultsA, resultA, finish, old, olds, flat, movedH_same, Nat.min_self, loadA, readCells, cellsV_int, a2, a3, b0, b1, hsp, htp, hv]; rfl, by simp [a2], by simp [a3], fun s hs => by rcases hs with rfl | rfl | rfl <;> simp [lookE_setE]⟩
  have d2 : lookupE s2.vE 2 = .str text := by rw [c4 2 (by simp)]; exact b2
  obtain ⟨s3, e1, e2, e3, e4⟩ : ∃ s3, execL tab F21Pc s2 = some (.normal, s3) ∧ s3.H = H ++ [.cells [.list 1 (wV name ds)]] ∧ s3.low = H.length ∧ PS sv tv H.length s3.vE := by
    refine ⟨_, by simp [F21Pc, callBody, zipE, execL_seq, execL_region, execL_cond, execL_skip, execL_ret, execL_exit, execL_block, execOps, wantedA, S_mv, S_pick, S_bin, S_un, S_call0, S_call1, S_extract, S_nilEq, S_load, S_alloc, Opd.ev, lookupE, lookE_setE, St.put, binA, unA, boolOf, freezeVs, freezeV, freeze1, isP, isPs, resultsA, resultA, finish, old, olds, flat, movedH_same, Nat.min_self, loadA, readCells, cellsV_int, c2, c3, d2, hw, S_store, storeA, cellsV_lst2, cellsOk, cellOk, setCells, get_off0, set_off0]; rfl, ?_⟩
    exact ⟨by simp, by first | (simp; done) | (simp; omega), ⟨by simp [lookE_setE, c4 0, b0], by simp [lookE_setE, c4 1, b1], by simp [lookE_setE]⟩⟩
  exact ⟨s1, s2, s3, a1, c1, e1, e2, e3, e4⟩

theorem p_gh (h1 : st.H = H) (h2 : st.low = n) (hnH : n ≤ H.length) (w : PS sv tv n st.vE) (l10 : lookupE st.vE 10 = lV ds) :
    ∃ s1 s2, execL tab F21Pg st = some (.normal, s1) ∧ execL tab F21Ph s1 = some (.normal, s2) ∧ s2.H = H ∧ s2.low = n ∧ PS sv tv n s2.vE ∧ lookupE s2.vE 10 = lV ds ∧ lookupE s2.vE 11 = .nil0 ∧ lookupE s2.vE 12 = .bool true := by
  have n0 : min n H.length = n := Nat.min_eq_left hnH
  obtain ⟨s1, a1, a2, a3, a4, a5, a6⟩ : ∃ s1, execL tab F21Pg st = some (.normal, s1) ∧ s1.H = H ∧ s1.low = n ∧ PS sv tv n s1.vE ∧ lookupE s1.vE 10 = lV ds ∧ lookupE s1.vE 11 = .nil0 :=
    ⟨_, by simp [F21Pg, callBody, zipE, execL_seq, execL_region, execL_cond, execL_skip, execL_ret, execL_exit, execL_block, execOps, wantedA, S_mv, S_pick, S_bin, S_un, S_call0, S_call1, S_extract, S_nilEq, S_load, S_alloc, Opd.ev, lookupE, lookE_setE, St.put, binA, unA, boolOf, freezeVs, freezeV, freeze1, isP, isPs, resultsA, resultA, finish, old, olds, flat, movedH_same, Nat.min_self, loadA, readCells, cellsV_int, h1, h2, n0]; rfl, by simp [h1], by simp [h2], w.set (fun s hs => by rcases hs with rfl | rfl | rfl <;> simp [lookE_setE]), by simp [lookE_setE, l10], by simp [lookE_setE]⟩
  refine ⟨s1, _, a1, by simp [F21Ph, callBody, zipE, execL_seq, execL_region, execL_cond, execL_skip, execL_ret, execL_exit, execL_block, execOps, wantedA, S_mv, S_pick, S_bin, S_un, S_call0, S_call1, S_extract, S_nilEq, S_load, S_alloc, Opd.ev, lookupE, lookE_setE, St.put, binA, unA, boolOf, freezeVs, freezeV, freeze1, isP, isPs, resultsA, resultA, finish, old, olds, flat, movedH_same, Nat.min_self, loadA, readCells, cellsV_int, a2, a3, n0]; rfl, by simp [a2], by simp [a3], a4.set (fun s hs => by rcases hs with rfl | rfl | rfl <;> simp [lookE_setE]), by simp [lookE_setE, a5], by simp [lookE_setE, a6], by simp [lookE_setE]⟩

set_option maxHeartbeats 1000000 in
theorem p_jk {ts : List Tb} {i : Nat} {u : V} (ht : VT tv ts) (hi : ts.findIdx? (fun t => t.name == name) = some i) (hp : st.H[n]? = some (.cells [.list 1 (wV name ds)])) (h2 : st.low = n) (hnH : n < st.H.length) (w : PS sv tv n st.vE) (l12 : lookupE st.vE 12 = .bool true) (l11 : lookupE st.vE 11 = u) :
    ∃ s1 s2, execL tab F21Pj st = some (.normal, s1) ∧ execL tab F21Pk s1 = some (.normal, s2) ∧ s2.H = st.H ∧ s2.low = n ∧ PS sv tv n s2.vE ∧ lookupE s2.vE 17 = .int .i64 i ∧ lookupE s2.vE 12 = .bool true ∧ lookupE s2.vE 11 = u := by
  have n0 : min n st.H.length = n := Nat.min_eq_left (by omega)
  have hx := indexN_s ht hp (wV_0 name ds) hi
  unfold Ans at hx
  have htp := slE_isP ht.sl
  obtain ⟨s1, a1, a2, a3, a4, a5, a6, a7⟩ : ∃ s1, execL tab F21Pj st = some (.normal, s1) ∧ s1.H = st.H ∧ s1.low = n ∧ PS sv tv n s1.vE ∧ lookupE s1.vE 17 = .int .i64 i ∧ lookupE s1.vE 12 = .bool true ∧ lookupE s1.vE 11 = u :=
    ⟨_, by simp [F21Pj, callBody, zipE, execL_seq, execL_region, execL_cond, execL_skip, execL_ret, execL_exit, execL_block, execOps, wantedA, S_mv, S_pick, S_bin, S_un, S_call0, S_call1, S_extract, S_nilEq, S_load, S_alloc, Opd.ev, lookupE, lookE_setE, St.put, binA, unA, boolOf, freezeVs, freezeV, freeze1, isP, isPs, resultsA, resultA, finish, old, olds, flat, movedH_same, Nat.min_self, loadA, readCells, cellsV_int, h2, n0, w.v1, w.v9, S_mkFn, htp, hx]; rfl, by simp, by simp, w.set (fun s hs => by rcases hs with rfl | rfl | rfl <;> simp [lookE_setE]), by simp [lookE_setE], by simp [lookE_setE, l12], by simp [lookE_setE, l11]⟩
  have hni : ¬ (i : Int) < 0 := by omega
  refine ⟨s1, _, a1, by simp [F21Pk, callBody, zipE, execL_seq, execL_region, execL_cond, execL_skip, execL_ret, execL_exit, execL_block, execOps, wantedA, S_mv, S_pick, S_bin, S_un, S_call0, S_call1, S_extract, S_nilEq, S_load, S_alloc, Opd.ev, lookupE, lookE_setE, St.put, binA, unA, boolOf, freezeVs, freezeV, freeze1, isP, isPs, resultsA, resultA, finish, old, olds, flat, movedH_same, Nat.min_self, loadA, readCells, cellsV_int, a2, a3, a5, n0, hni]; rfl, by simp [a2], by simp [a3], a4.set (fun s hs => by rcases hs with rfl | rfl | rfl <;> simp [lookE_setE]), by simp [lookE_setE, a5], by simp [lookE_setE, a6], by simp [lookE_setE, a7]⟩

set_option maxHeartbeats 1000000 in
theorem p_lmno {sizes : List Int} {ts : List Tb} {i : Nat} {c : Int} {u : V} (hs : VI sv sizes) (ht : VT tv ts) (hc : cellR sizes ts i ds = (c, 0)) (hd3 : ds.length ≤ 3) (h2 : st.low = n) (hnH : n < st.H.length) (w : PS sv tv n st.vE) (l17 : lookupE st.vE 17 = .int .i64 i) (l12 : lookupE st.vE 12 = .bool true) (l11 : lookupE st.vE 11 = u)
    (hu : RowV .nil0 (n + 1) st.H u (ds.map (.int .i64))) :
    ∃ st', execL tab (.seq F21Pl (.seq F21Pm (.seq F21Pn F21Po))) st = some (.ret, st') ∧ n ≤ st'.low ∧ n ≤ st'.H.length ∧ lookupE st'.vE 6 = .int .i64 i ∧ lookupE st'.vE 7 = .int .i64 c ∧ lookupE st'.vE 8 = .int .i64 0 := by
  have n0 : min n st.H.length = n := Nat.min_eq_left (by omega)
  have hsp := slE_isP hs.sl
  have htp := slE_isP ht.sl
  have L : ∃ s1, execL tab F21Pl st = some (.normal, s1) ∧ s1.low = n ∧ n < s1.H.length ∧ lookupE s1.vE 17 = .int .i64 i ∧ lookupE s1.vE 12 = .bool true ∧ lookupE s1.vE 18 = .int .i64 c ∧ lookupE s1.vE 19 = .int .i64 0 := by
    rcases hu with ⟨e, rfl⟩ | ⟨e, q, g1, g2, rfl, g4⟩
    · have hdn : ds = [] := by simpa using e
      subst hdn
      have hx := cell_s (table := (i : Int)) hs ht (uv := .nil0) (tu := []) ⟨rfl, rfl, by decide⟩ st.H
      rw [hc] at hx
      unfold Ans at hx
      refine ⟨_, by simp [F21Pl, callBody, zipE, execL_seq, execL_region, execL_cond, execL_skip, execL_ret, execL_exit, execL_block, execOps, wantedA, S_mv, S_pick, S_bin, S_un, S_call0, S_call1, S_extract, S_nilEq, S_load, S_alloc, Opd.ev, lookupE, lookE_setE, St.put, binA, unA, boolOf, freezeVs, freezeV, freeze1, isP, isPs, resultsA, resultA, finish, old, olds, flat, movedH_same, Nat.min_self, loadA, readCells, cellsV_int, h2, n0, w.v0, w.v1, l17, l11, hsp, htp, hx]; rfl, ?_⟩
      exact ⟨by simp, by simpa using hnH, by simp [lookE_setE, l17], by simp [lookE_setE, l12], by simp [lookE_setE], by simp [lookE_setE]⟩
    · have g4E : ∀ h : q < st.H.length, st.H[q]'h = .row 1 (ds.map (.int .i64)) false := fun h => by rw [List.getElem?_eq_getElem h] at g4; exact Option.some.inj g4
      have hx := cell_s (table := (i : Int)) hs ht (uv := .list 1 (ds.map (.int .i64))) (tu := ds) ⟨rfl, rfl, by omega⟩ (st.H.set q (.row 1 (ds.map (.int .i64)) true))
      rw [hc] at hx
      unfold Ans at hx
      rw [List.length_set] at hx
      have hip := isPs_ints ds
      have hll : (ds.map (V.int .i64)).length = ds.length := by simp
      rw [hll] at l11
      have htk : List.take ds.length (ds.map (V.int .i64)) = ds.map (V.int .i64) := List.take_of_length_le (by simp)
      refine ⟨_, by simp [F21Pl, callBody, zipE, execL_seq, execL_region, execL_cond, execL_skip, execL_ret, execL_exit, execL_block, execOps, wantedA, S_mv, S_pick, S_bin, S_un, S_call0, S_call1, S_extract, S_nilEq, S_load, S_alloc, Opd.ev, lookupE, lookE_setE, St.put, binA, unA, boolOf, freezeVs, freezeV, freeze1, isP, isPs, resultsA, resultA, finish, old, olds, flat, movedH_same, Nat.min_self, loadA, readCells, cellsV_int, h2, n0, w.v0, w.v1, l17, l11, hsp, htp, g4, g4E, hip, htk, hx]; rfl, ?_⟩
      exact ⟨by first | (simp; done) | (simp; omega), by simpa using hnH, by simp [lookE_setE, l17], by simp [lookE_setE, l12], by simp [lookE_setE], by simp [lookE_setE]⟩
  obtain ⟨s1, a1, a2, a3, a4, a5, a6, a7⟩ := L
  have n1 : min n s1.H.length = n := Nat.min_eq_left (by omega)
  obtain ⟨s2, b1, b2, b3, b4, b5⟩ : ∃ s2, execL tab F21Pm s1 = some (.normal, s2) ∧ s2.low = n ∧ s2.H = s1.H ∧ lookupE s2.vE 17 = .int .i64 i ∧ lookupE s2.vE 18 = .int .i64 c :=
    ⟨_, by simp [F21Pm, callBody, zipE, execL_seq, execL_region, execL_cond, execL_skip, execL_ret, execL_exit, execL_block, execOps, wantedA, S_mv, S_pick, S_bin, S_un, S_call0, S_call1, S_extract, S_nilEq, S_load, S_alloc, Opd.ev, lookupE, lookE_setE, St.put, binA, unA, boolOf, freezeVs, freezeV, freeze1, isP, isPs, resultsA, resultA, finish, old, olds, flat, movedH_same, Nat.min_self, loadA, readCells, cellsV_int, a2, a5, a7, n1]; rfl, by simp, by simp, by simp [lookE_setE, a4], by simp [lookE_setE, a6]⟩
  have n2 : min n s2.H.length = n := by rw [b3]; exact n1
  obtain ⟨s3, c1, c2, c3, c4, c5, c6⟩ : ∃ s3, execL tab (.seq F21Pn F21Po) s2 = some (.ret, s3) ∧ s3.low = n ∧ s3.H = s2.H ∧ lookupE s3.vE 6 = .int .i64 i ∧ lookupE s3.vE 7 = .int .i64 c ∧ lookupE s3.vE 8 = .int .i64 0 :=
    ⟨_, by simp [F21Pn, F21Po, callBody, zipE, execL_seq, execL_region, execL_cond, execL_skip, execL_ret, execL_exit, execL_block, execOps, wantedA, S_mv, S_pick, S_bin, S_un, S_call0, S_call1, S_extract, S_nilEq, S_load, S_alloc, Opd.ev, lookupE, lookE_setE, St.put, binA, unA, boolOf, freezeVs, freezeV, freeze1, isP, isPs, resultsA, resultA, finish, old, olds, flat, movedH_same, Nat.min_self, loadA, readCells, cellsV_int, b2, b4, b5, n2]; rfl, by simp, by simp, by simp [lookE_setE], by simp [lookE_setE], by simp [lookE_setE]⟩
  refine ⟨s3, ?_, by omega, by rw [c3, b3]; omega, c4, c5, c6⟩
  rw [execL_seq, a1]; simp only []; rw [execL_seq, b1]; simp only []; exact c1
end

set_option maxHeartbeats 1000000 in
theorem parse_s {sizes ds : List Int} {sv tv : V} {ts : List Tb} {text name : List UInt8} {i : Nat} {c : Int} (hs : VI sv sizes) (ht : VT tv ts) (hV : validB sizes ts = true) (hl : text.length ≤ 4096) (hd3 : ds.length ≤ 3) (h6 : In6 ds) (hn : nameOk name = true) (hx : Lex text (cws name ds))
    (hi : ts.findIdx? (fun t => t.name == name) = some i) (hc : cellR sizes ts i ds = (c, 0)) (H : Heap) : Ans (.fn 21 [] []) [sv, tv, .str text] H (.tup [.int .i64 i, .int .i64 c, .int .i64 0]) := by
  obtain ⟨s1, s2, s3, a1, a2, a3, a4, a5, a6⟩ := p_abc (H := H) (st := { tE := [], vE := [(0, sv), (1, tv), (2, .str text)], H := H, low := H.length }) hs ht hV hl hd3 hx rfl rfl rfl rfl rfl
  have hp : s3.H[H.length]? = some (.cells [.list 1 (wV name ds)]) := by rw [a4]; simp
  have hl3 : s3.H.length = H.length + 1 := by rw [a4]; simp
  obtain ⟨s4, b1, b2, b3, b4⟩ := p_d hn hd3 hp rfl a5 (by omega) a6
  obtain ⟨s5, c1, c2, c3, c4, c5⟩ := p_e hd3 hp b2 b3 (by omega) b4
  obtain ⟨s6, d1, d2, d3, d4, d5⟩ := p_f c2 c3 (by omega) c4 c5
  obtain ⟨s7, s8, e1, e2, e3, e4, e5, e6, e7, e8⟩ := p_gh d2 d3 (by omega) d4 d5
  obtain ⟨s9, u, f1, f2, f3, f4, f5, f6, f7, f8⟩ := p_i h6 hd3 hp hl3 e3 e4 e5 e6 e7 e8
  obtain ⟨s10, s11, g1, g2, g3, g4, g5, g6, g7, g8⟩ := p_jk ht hi f4 f2 f3 f5 f6 f7
  obtain ⟨s12, k1, k2, k3, k4, k5, k6⟩ := p_lmno hs ht hc hd3 g4 (by rw [g3]; exact f3) g5 g6 g7 g8 (by rw [g3]; exact f8)
  have chain : execL tab F21C { tE := [], vE := [(0, sv), (1, tv), (2, .str text)], H := H, low := H.length } = some (.ret, s12) := by
    rw [F21C_parts, execL_seq, a1]; simp only []
    rw [execL_seq, a2]; simp only []
    rw [execL_seq, a3]; simp only []
    rw [execL_seq, b1]; simp only []
    rw [execL_seq, c1]; simp only []
    rw [execL_seq, d1]; simp only []
    rw [execL_seq, e1]; simp only []
    rw [execL_seq, e2]; simp only []
    rw [execL_seq, f1]; simp only []
    rw [execL_seq, g1]; simp only []
    rw [execL_seq, g2]; simp only []
    exact k1
  have hm : min H.length s12.H.length = H.length := Nat.min_eq_left k3
  have hlow := execL_low chain (Nat.le_refl _)
  simp only at hlow
  have hle : s12.low = H.length := by omega
  unfold Ans
  rw [callL_fn, show tab 21 = some (.code F21) from rfl, F21_body]
  simp [callBody, zipE, execL_seq, execL_region, execL_cond, execL_skip, execL_ret, execL_exit, execL_block, execOps, wantedA, S_mv, S_pick, S_bin, S_un, S_call0, S_call1, S_extract, S_nilEq, S_load, S_alloc, Opd.ev, lookupE, setE, St.put, binA, unA, boolOf, freezeVs, freezeV, freeze1, isP, isPs, resultsA, resultA, finish, old, olds, flat, movedH_same, Nat.min_self, loadA, readCells, cellsV_int, chain, k4, k5, k6, hle]
end Go.Abs.T09
/- The texts of the cells of a valid layout: plain law. -/
namespace Go.Abs.T09
open Go Go.Abs

theorem tok_parts {sizes : List Int} {ns : List (List UInt8)} {t : Tb} (h : tOk sizes ns t = true) : nameOk t.name = true ∧ ns.contains t.name = false := by
  simp only [tOk, List.all_cons, List.all_nil, id, Bool.and_eq_true] at h
  exact ⟨h.1, by simpa using h.2.1⟩
theorem Valid.nameK {sizes : List Int} {ts : List Tb} (h : Valid sizes ts) {k : Nat} {t : Tb} (e : ts[k]? = some t) : nameOk t.name = true := by
  have := h.fits k t e
  simp only [tFits, Bool.and_eq_true] at this
  exact (tok_parts this.1).1
theorem Valid.fresh {sizes : List Int} {ts : List Tb} (h : Valid sizes ts) {j k : Nat} {t u : Tb} (e : ts[k]? = some t) (f : ts[j]? = some u) (hjk : j < k) : u.name ≠ t.name := fun hn => by
  have := h.fits k t e
  simp only [tFits, Bool.and_eq_true] at this
  have h2 := (tok_parts this.1).2
  rw [Bool.eq_false_iff] at h2
  refine h2 ?_
  simp only [List.contains_iff_mem, List.mem_map]
  have hm : (ts.take k)[j]? = some u := by rw [List.getElem?_take, if_pos hjk]; exact f
  exact ⟨u, List.mem_of_getElem? hm, hn⟩
theorem Valid.named {sizes : List Int} {ts : List Tb} (h : Valid sizes ts) {k : Nat} {t : Tb} (e : ts[k]? = some t) : ts.findIdx? (fun u => u.name == t.name) = some k := by
  rw [List.findIdx?_eq_some_iff_getElem]
  have hk : k < ts.length := by
    rcases Nat.lt_or_ge k ts.length with h1 | h1
    · exact h1
    · rw [List.getElem?_eq_none h1] at e; cases e
  have hkt : ts[k] = t := by rw [List.getElem?_eq_getElem hk] at e; exact Option.some.inj e
  refine ⟨hk, by rw [hkt]; simp, fun j hj => ?_⟩
  have := h.fresh e (List.getElem?_eq_getElem (show j < ts.length by omega)) hj
  simpa using this

/-- The text of a cell. -/
def fmtOf (sizes : List Int) (ts : List Tb) (b : Bool) (c : Int) : List UInt8 := match ts.findIdx? (hit sizes b c) with
  | some i => match ts[i]? with
    | some t => fmt t.name (tupleOf (dimsOf sizes t.cl) (c - t.first))
    | none => []
  | none => []

structure CellAt (sizes : List Int) (ts : List Tb) (b : Bool) (c : Int) (i : Nat) (t : Tb) (tu : List Int) : Prop where
  get : ts[i]? = some t
  str : strictB t = b
  tup : tupleR sizes ts b c = .tup [.int .i64 i, tupV tu, .bool true]
  len : tu.length ≤ 3
  in6 : In6 tu
  cel : cellR sizes ts i tu = (c, 0)
  nam : nameOk t.name = true
  idx : ts.findIdx? (fun u => u.name == t.name) = some i
  txt : fmtOf sizes ts b c = fmt t.name tu

theorem Valid.cellAt {sizes : List Int} {ts : List Tb} (h : Valid sizes ts) {b : Bool} {c : Int} (h0 : 0 ≤ c) (hc : c < sumB b sizes ts) : ∃ i t tu, CellAt sizes ts b c i t tu := by
  obtain ⟨j, t, -, hjt, hjh⟩ := h.some_hit h0 ts.length (by rw [List.take_length]; exact hc)
  have hsome : ts.findIdx? (hit sizes b c) ≠ none := fun hn => by
    rw [List.findIdx?_eq_none_iff] at hn
    rw [hn t (List.mem_of_getElem? hjt)] at hjh; cases hjh
  obtain ⟨i, hi⟩ := Option.ne_none_iff_exists'.1 hsome
  obtain ⟨hil, hh, -⟩ := List.findIdx?_eq_some_iff_getElem.1 hi
  obtain ⟨t, het⟩ : ∃ t, ts[i]? = some t := ⟨_, List.getElem?_eq_getElem hil⟩
  have : ts[i] = t := by rw [List.getElem?_eq_getElem hil] at het; exact Option.some.inj het
  rw [this] at hh
  obtain ⟨h1, h2, h3⟩ := hit_iff.1 hh
  have hd := dims_in h.ok (h.good het)
  obtain ⟨k1, k2, k3⟩ := tupleOf_spec (fun d hd' => (hd d hd').1) (k := c - t.first) (by omega) (by unfold wid at h3; omega)
  refine ⟨i, t, tupleOf (dimsOf sizes t.cl) (c - t.first), het, h1, ?_, ?_, ?_, ?_, h.nameK het, h.named het, ?_⟩
  · unfold tupleR
    rw [valid_iff.2 h, if_neg (by simp; omega), hi]
    simp only [het]
  · rw [k3]; simp [dimsOf]; exact (goodCols_in (h.good het)).1
  · intro x hx
    obtain ⟨m, hm⟩ := List.getElem?_of_mem hx
    have hml : m < (dimsOf sizes t.cl).length := by
      rw [← k1.1]
      rcases Nat.lt_or_ge m (tupleOf (dimsOf sizes t.cl) (c - t.first)).length with q | q
      · exact q
      · rw [List.getElem?_eq_none q] at hm; cases hm
    obtain ⟨d, hdm⟩ : ∃ d, (dimsOf sizes t.cl)[m]? = some d := ⟨_, List.getElem?_eq_getElem hml⟩
    have a := k1.2 m x d hm hdm
    have b := hd d (List.mem_of_getElem? hdm)
    omega
  · rw [h.cell_of het k1, k2]
    congr 1; omega
  · unfold fmtOf
    rw [hi]
    simp only [het]

theorem Valid.fmt_inj {sizes : List Int} {ts : List Tb} (h : Valid sizes ts) {b b' : Bool} {c c' : Int} (h0 : 0 ≤ c) (hc : c < sumB b sizes ts) (h0' : 0 ≤ c') (hc' : c' < sumB b' sizes ts) (e : fmtOf sizes ts b c = fmtOf sizes ts b' c') : b = b' ∧ c = c' := by
  obtain ⟨i, t, tu, C⟩ := h.cellAt h0 hc
  obtain ⟨i', t', tu', C'⟩ := h.cellAt h0' hc'
  rw [C.txt, C'.txt] at e
  obtain ⟨e1, e2⟩ := T09.fmt_inj C.nam C'.nam C.in6 C'.in6 e
  have hii : i = i' := by
    have h1 := C.idx
    rw [e1, C'.idx] at h1
    exact (Option.some.inj h1).symm
  subst hii
  have htt : t = t' := Option.some.inj (C.get.symm.trans C'.get)
  subst htt
  subst e2
  exact ⟨C.str.symm.trans C'.str, congrArg Prod.fst (C.cel.symm.trans C'.cel)⟩

/-- The texts so far: b cells of the strict ones, then of the others. -/
def seenL (sizes : List Int) (ts : List Tb) (b : Bool) (k : Nat) : List (List UInt8) :=
  (if b = true then [] else (List.range (sumB true sizes ts).toNat).map fun c : Nat => fmtOf sizes ts true c) ++ (List.range k).map fun c : Nat => fmtOf sizes ts b c

theorem seenL_succ (sizes : List Int) (ts : List Tb) (b : Bool) (k : Nat) : seenL sizes ts b (k + 1) = seenL sizes ts b k ++ [fmtOf sizes ts b k] := by
  unfold seenL
  rw [List.range_succ, List.map_append, ← List.append_assoc]
  rfl
theorem seenL_switch (sizes : List Int) (ts : List Tb) : seenL sizes ts false 0 = seenL sizes ts true (sumB true sizes ts).toNat := by simp [seenL]
theorem Valid.unseen {sizes : List Int} {ts : List Tb} (h : Valid sizes ts) {b : Bool} {k : Nat} (hk : (k : Int) < sumB b sizes ts) : (seenL sizes ts b k).contains (fmtOf sizes ts b k) = false := by
  rw [Bool.eq_false_iff]
  intro hc
  simp only [List.contains_iff_mem, seenL, List.mem_append, List.mem_map, List.mem_range] at hc
  rcases hc with hc | ⟨j, hj, e⟩
  · cases b with
    | true => simp at hc
    | false =>
      rw [if_neg (by decide)] at hc
      obtain ⟨j, hj, e⟩ := List.mem_map.1 hc
      have hj := List.mem_range.1 hj
      have := (h.fmt_inj (b := true) (b' := false) (c := j) (c' := k) (by omega) (by omega) (by omega) hk e).1
      cases this
  · have := (h.fmt_inj (b := b) (b' := b) (c := j) (c' := k) (by omega) (by omega) (by omega) hk e).2
    omega

theorem joinTail_ones (sep : List UInt8) : ∀ r : List (List UInt8), (∀ w ∈ r, w.length = 1) → (Lib.joinTail sep r).length = r.length * (sep.length + 1)
  | [], _ => by simp [Lib.joinTail]
  | w :: r, h => by
    have ih := joinTail_ones sep r fun x hx => h x (by simp [hx])
    have hw := h w (by simp)
    simp only [Lib.joinTail, List.map_cons, List.flatten_cons, List.length_append, List.length_cons] at ih ⊢
    rw [ih, hw, Nat.add_mul]
    omega
theorem tl_ones (ds : List Int) : ∀ w ∈ tl ds, w.length = 1 := by
  intro w hw
  simp only [tl, List.mem_flatMap] at hw
  obtain ⟨d, -, hd⟩ := hw
  simp at hd
  rcases hd with rfl | rfl <;> rfl
theorem dl_ones (ds : List Int) : ∀ w ∈ dl ds, w.length = 1 := by
  intro w hw
  cases ds with
  | nil => cases hw
  | cons d r =>
    simp only [dl, List.mem_cons] at hw
    rcases hw with rfl | hw
    · rfl
    · exact tl_ones r w hw
theorem cws_join_len {name sep : List UInt8} {ds : List Int} (hn : name.length ≤ 16) (hs : sep.length ≤ 4) (hd : ds.length ≤ 3) : (Lib.join (cws name ds) sep).length ≤ 51 := by
  unfold cws
  have hdl := dl_length ds
  rw [Lib.join_cons, List.length_append, joinTail_ones sep _ (fun w hw => by
    simp only [List.mem_cons, List.mem_append, List.not_mem_nil, or_false] at hw
    rcases hw with rfl | hw | rfl
    · rfl
    · exact dl_ones ds w hw
    · rfl)]
  simp only [List.length_cons, List.length_append, List.length_nil]
  have h1 : (dl ds).length + (0 + 1) + 1 ≤ 7 := by omega
  have h2 : ((dl ds).length + (0 + 1) + 1) * (sep.length + 1) ≤ 7 * 5 := Nat.mul_le_mul h1 (by omega)
  omega

/-- What stands between the words. -/
def blankOf (n : Int) : List UInt8 := if n % 4 = 0 then [] else if n % 4 = 1 then [32] else if n % 4 = 2 then [10] else [35, 32, 120, 10]
theorem blank_sep (n : Int) : Sep (blankOf n) ∧ (blankOf n).length ≤ 4 := by
  unfold blankOf
  split
  · exact ⟨sep0, by simp⟩
  · split
    · exact ⟨sep1, by simp⟩
    · split
      · exact ⟨sep2, by simp⟩
      · exact ⟨sep3, by simp⟩
end Go.Abs.T09
/- CellsReads: one cell. -/
namespace Go.Abs.T09
open Go Go.Abs

def F5Pa : ACode := .region [⟨some (43, false), .mv (.var 41), none⟩, ⟨some (10, true), .mv (.tmp 43), none⟩] none
def F5Pb : ACode := .region [⟨some (44, false), .mv (.var 0), none⟩, ⟨some (45, false), .mv (.var 1), none⟩, ⟨some (46, false), .mv (.var 9), none⟩, ⟨some (47, false), .mv (.var 10), none⟩, ⟨some (48, false), .call false (.func 18) [(.tmp 44), (.tmp 45), (.tmp 46), (.tmp 47)], none⟩, ⟨some (11, true), .mv (.tmp 48), none⟩] none
def F5Pc : ACode := .seq (.region [⟨some (49, false), .mv (.var 11), none⟩, ⟨some (50, false), .bin .eql (.tmp 49) (.const (.str [])), none⟩, ⟨some (51, false), .mv (.tmp 50), none⟩, ⟨some (52, false), .mv (.var 7), some ((.tmp 51), false)⟩, ⟨some (53, false), .mv (.var 11), some ((.tmp 51), false)⟩, ⟨some (54, false), .lookup 1 (.bool false) (.tmp 52) (.tmp 53) false, some ((.tmp 51), false)⟩, ⟨some (55, true), .pick (.tmp 51) (.const (.bool true)) (.tmp 54), none⟩] none) (.cond (.var 55) (.seq (.region [⟨some (6, true), .mv (.const (.bool false)), none⟩] none) (.ret)) (.skip))
def F5Pd : ACode := .region [⟨some (56, false), .mv (.var 7), none⟩, ⟨some (57, false), .mv (.var 11), none⟩, ⟨none, .mapUpd 1 (.tmp 56) (.tmp 57) (.const (.bool true)), none⟩] none
def F5Pe : ACode := .region [⟨some (58, false), .lit 1 [.str []] 4 [(0, (.const (.str []))), (1, (.const (.str [32]))), (2, (.const (.str [10]))), (3, (.const (.str [35, 32, 120, 10])))] true, none⟩, ⟨some (59, false), .mv (.var 2), none⟩, ⟨some (60, false), .conv .i64 (.tmp 59), none⟩, ⟨some (61, false), .bin .rem (.tmp 60) (.const (.int .i64 4)), none⟩, ⟨some (62, false), .indexAddr 1 (.tmp 58) (.tmp 61), none⟩, ⟨some (63, false), .load none (.tmp 62), none⟩, ⟨some (12, true), .mv (.tmp 63), none⟩] none
def F5Pf : ACode := .region [⟨some (64, false), .mv (.var 11), none⟩, ⟨some (65, false), .mv (.var 11), none⟩, ⟨some (66, false), .call false (.func 20) [(.tmp 65)], none⟩, ⟨some (67, false), .mv (.var 12), none⟩, ⟨some (68, false), .call false (.func 19) [(.tmp 66), (.tmp 67)], none⟩, ⟨some (69, true), .lit 1 [.str []] 2 [(0, (.tmp 64)), (1, (.tmp 68))] true, none⟩, ⟨some (70, true), .len 1 (.var 69), none⟩, ⟨some (71, true), .mv (.const (.int .i64 0)), none⟩] none
def F5Pg : ACode := .block 4 (.loop (rangeBody 72 70 71 108 5 4 F5L0))
theorem F5L1_parts : F5L1 = .seq F5Pa (.seq F5Pb (.seq F5Pc (.seq F5Pd (.seq F5Pe (.seq F5Pf (F5Pg)))))) := rfl

section
variable {sizes : List Int} {sv tv : V} {ts : List Tb} {b : Bool} {k i : Nat} {t : Tb} {tu : List Int} {n : Int} {H : Heap} {st : St}

/-- The variables of the loop over the cells. -/
structure RV (sv tv : V) (n : Int) (b : Bool) (e : Env) : Prop where
  v0 : lookupE e 0 = sv
  v1 : lookupE e 1 = tv
  v2 : lookupE e 2 = .int .u8 n
  v7 : lookupE e 7 = .map 0
  v9 : lookupE e 9 = .bool b
theorem RV.set {e e' : Env} (w : RV sv tv n b e) (h : ∀ s, s = 0 ∨ s = 1 ∨ s = 2 ∨ s = 7 ∨ s = 9 → lookupE e' s = lookupE e s) : RV sv tv n b e' :=
  ⟨by rw [h 0 (by simp)]; exact w.v0, by rw [h 1 (by simp)]; exact w.v1, by rw [h 2 (by simp)]; exact w.v2, by rw [h 7 (by simp)]; exact w.v7, by rw [h 9 (by simp)]; exact w.v9⟩

set_option maxHeartbeats 2000000 in
theorem rd_round {text : List UInt8} {xs : List V} {j : Nat} (hs : VI sv sizes) (ht : VT tv ts) (hV : Valid sizes ts) (C : CellAt sizes ts b k i t tu) (hl : text.length ≤ 4096) (hx : Lex text (cws t.name tu)) (hj : xs[j]? = some (.str text))
    (h1 : st.H = H) (h2 : st.low = 0) (w : RV sv tv n b st.vE) (l10 : lookupE st.vE 10 = .int .i64 k) (l69 : lookupE st.vE 69 = .list 1 xs) (l71 : lookupE st.vE 71 = .int .i64 j) :
    ∃ st', execL tab F5L0 st = some (.normal, st') ∧ st'.H = H ∧ st'.low = 0 ∧ RV sv tv n b st'.vE ∧ ∀ s, s = 10 ∨ s = 69 ∨ s = 70 ∨ s = 71 ∨ s = 11 ∨ s = 12 ∨ s = 40 ∨ s = 41 ∨ s = 31 ∨ s = 32 ∨ s = 33 → lookupE st'.vE s = lookupE st.vE s := by
  have hp := parse_s (i := i) (c := k) hs ht (valid_iff.2 hV) hl C.len C.in6 C.nam hx C.idx C.cel H
  unfold Ans at hp
  have hq := hp
  have hsp := slE_isP hs.sl
  have htp := slE_isP ht.sl
  have hsl : slE 1 (V.list 1 xs) = true := rfl
  have hel : el (V.list 1 xs) = xs := rfl
  have hg := ht.get C.get
  have hne : ((k : Int) != (k : Int)) = false := by simp
  have hbe : b = (t.kind == 0 || t.kind == 1) := C.str.symm
  clear C hp
  have hp : callL tab (.fn 21 [] []) [sv, tv, .str text] H = some (.tup [.int .i64 i, .int .i64 k, .int .i64 0], H, H.length) := hq
  generalize e0 : (t.kind == 0) = k0 at hbe
  generalize e1 : (t.kind == 1) = k1 at hbe
  subst hbe
  cases k0 <;> cases k1 <;>
  exact ⟨_, by simp (maxSteps := 2000000) [F5L0, callBody, zipE, execL_seq, execL_region, execL_cond, execL_skip, execL_ret, execL_exit, execL_block, execOps, wantedA, S_mv, S_pick, S_bin, S_un, S_call0, S_call1, S_extract, S_nilEq, S_load, S_alloc, Opd.ev, lookupE, lookE_setE, St.put, binA, unA, boolOf, freezeVs, freezeV, freeze1, isP, isPs, resultsA, resultA, finish, old, olds, flat, movedH_same, Nat.min_self, loadA, readCells, cellsV_int, h1, h2, w.v0, w.v1, w.v9, l10, l69, l71, S_index, hsl, hel, hj, cellsV_st, hsp, htp, hp, hne, ht.sl, hg, S_fieldAddr, cellsV_tb, Tb.c1, Tb.e1, Tb.len, e0, e1, nilEqA]; rfl, by simp [h1], by simp [h2], w.set (fun s hs => by rcases hs with rfl | rfl | rfl | rfl | rfl <;> simp [lookE_setE]), fun s hs => by rcases hs with rfl | rfl | rfl | rfl | rfl | rfl | rfl | rfl | rfl | rfl | rfl <;> simp [lookE_setE]⟩
end
end Go.Abs.T09
