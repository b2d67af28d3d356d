/- A round of cells.Tuples: the tuple goes behind the others. -/
import Derived.Test.YteiajndkjnlmiaaGreatDoorXS4
import Derived.Test.YteiajndkjnlmiaaGreatDoorXeFrame
set_option linter.unusedVariables false
set_option linter.unusedSimpArgs false
namespace Go.Abs.T09
open Go Go.Abs

theorem execL_low {c : ACode} {st st' : St} {x : X} (h : execL tab c st = some (x, st')) (hl : st.low ≤ st.H.length) : st'.low ≤ st.low := by
  obtain ⟨n, hn⟩ := execL_iff.1 h
  exact (exec_fr (callN_fr tab n) n _ _ _ _ hl hn).1.low

def outC (L : List V) : AObj := .cells [if L = [] then .nil0 else .sref 5 1 0 L.length L.length]
def outRow (L : List V) : Heap := if L = [] then [] else [.row 1 L false]
def loopO (env : Env) : AObj := .loop .ready .normal env [19] F17A0 F17B0
def heapS (sv cv : V) (env : Env) (t : List Int) (L : List V) : Heap := outC L :: .cells [sv] :: .cells [cv] :: loopO env :: rowI t :: outRow L

theorem cellOk_sref (l es o n t : Nat) : cellOk (.sref l es o n t) = true := rfl
theorem cellsV_sref (l es o n t : Nat) : cellsV (.sref l es o n t) = [.sref l es o n t] := rfl

set_option maxHeartbeats 1000000 in
theorem yield_step {sv cv : V} {env : Env} {t : List Int} {L : List V} {tv : V} (he : lookupE env 5 = .ptr 0 0) (hL : L.length ≤ 1000) (htp : isP tv = true) (htc : cellsV tv = [tv]) (hto : cellOk tv = true) :
    callL tab (.yield 3) [tv] (heapS sv cv env t L) = some (.bool true, heapS sv cv env t (L ++ [tv]), 0) := by
  rw [callL_yield]
  by_cases hE : L = []
  · subst hE
    simp [heapS, outC, outRow, loopO, yieldBody, F17A0, F17B0, callBody, zipE, execL_seq, execL_region, execL_cond, execL_skip, execL_ret, execL_exit, execL_block, execOps, wantedA, S_mv, S_pick, S_bin, S_un, S_call0, S_call1, S_extract, S_nilEq, S_load, S_alloc, Opd.ev, lookupE, lookE_setE, St.put, binA, unA, boolOf, freezeVs, freezeV, freeze1, isP, isPs, resultsA, resultA, finish, old, olds, flat, movedH_same, Nat.min_self, loadA, readCells, cellsV_int, he, S_lit, S_append, S_store, step, storeA, fillL, elems, zeroElem, htp, htc, hto, cellsOk, cellOk_sref, cellsV_sref, setCells, movedH, rowI]
  · have hcap : (L.length + 1) * 25 ≤ 1099511627776 := by omega
    simp [heapS, outC, outRow, loopO, yieldBody, F17A0, F17B0, callBody, zipE, execL_seq, execL_region, execL_cond, execL_skip, execL_ret, execL_exit, execL_block, execOps, wantedA, S_mv, S_pick, S_bin, S_un, S_call0, S_call1, S_extract, S_nilEq, S_load, S_alloc, Opd.ev, lookupE, lookE_setE, St.put, binA, unA, boolOf, freezeVs, freezeV, freeze1, isP, isPs, resultsA, resultA, finish, old, olds, flat, movedH_same, Nat.min_self, loadA, readCells, cellsV_int, he, S_lit, S_append, S_store, step, storeA, fillL, elems, zeroElem, htp, htc, hto, hE, hcap, cellsOk, cellOk_sref, cellsV_sref, setCells, movedH, rowI]

/-- Each number in the range of its place. -/
def InR (ds t : List Int) : Prop := t.length = ds.length ∧ ∀ (i : Nat) x d, t[i]? = some x → ds[i]? = some d → 0 ≤ x ∧ x < d

theorem InR.set {ds t : List Int} (h : InR ds t) {i : Nat} {y : Int} (hy : ∀ d, ds[i]? = some d → 0 ≤ y ∧ y < d) : InR ds (t.set i y) := by
  refine ⟨by simp [h.1], fun j x d hx hd => ?_⟩
  by_cases hij : i = j
  · subst hij
    rw [List.getElem?_set] at hx
    simp only [if_true] at hx
    split at hx
    · cases hx; exact hy d hd
    · cases hx
  · rw [List.getElem?_set_ne hij] at hx
    exact h.2 j x d hx hd

theorem InR.inc {ds : List Int} (hd : ∀ d ∈ ds, 1 ≤ d) : ∀ (i : Nat) (t : List Int), InR ds t → InR ds (incAt ds i t)
  | 0, t, h => h
  | i + 1, t, h => by
    simp only [incAt]
    split
    · rename_i hlt
      refine h.set fun d hdi => ?_
      rw [hdi] at hlt
      simp only [Option.getD_some] at hlt
      refine ⟨?_, hlt⟩
      cases hx : t[i]? with
      | none => simp
      | some x => have := (h.2 i x d hx hdi).1; simp; omega
    · refine InR.inc hd i _ (h.set fun d hdi => ⟨Int.le_refl _, ?_⟩)
      have := hd d (List.mem_of_getElem? hdi)
      omega

/-- The tuples one after the other. -/
def tk (ds : List Int) : Nat → List Int
  | 0 => List.replicate ds.length 0
  | k + 1 => incAt ds ds.length (tk ds k)
def tv (t : List Int) : V := .list 1 (t.map (.int .i64))
def Lk (ds : List Int) (k : Nat) : List V := (List.range k).map fun j => tv (tk ds j)

theorem tk_inR {ds : List Int} (hd : ∀ d ∈ ds, 1 ≤ d) : ∀ k, InR ds (tk ds k)
  | 0 => ⟨by simp [tk], fun i x d hx hdi => by
    simp only [tk] at hx
    rw [List.getElem?_replicate] at hx
    split at hx
    · cases hx; have := hd d (List.mem_of_getElem? hdi); omega
    · cases hx⟩
  | k + 1 => InR.inc hd _ _ (tk_inR hd k)

theorem tk_bound {ds : List Int} (hd : ∀ d ∈ ds, 1 ≤ d ∧ d ≤ 6) (k : Nat) : ∀ x ∈ tk ds k, -1000 ≤ x ∧ x ≤ 1000 := fun x hx => by
  obtain ⟨i, hi⟩ := List.getElem?_of_mem hx
  have hR := tk_inR (fun d h => (hd d h).1) k
  have hlt : i < (tk ds k).length := by
    rcases Nat.lt_or_ge i (tk ds k).length with h | h
    · exact h
    · simp [List.getElem?_eq_none h] at hi
  obtain ⟨d, hdi⟩ : ∃ d, ds[i]? = some d := ⟨_, List.getElem?_eq_getElem (by rw [← hR.1]; exact hlt)⟩
  have := hR.2 i x d hi hdi
  have := hd d (List.mem_of_getElem? hdi)
  omega

set_option maxHeartbeats 1000000 in
theorem tuples1_s {sv cv : V} {sizes cols : List Int} {env : Env} (hs : VI sv sizes) (hc : VI cv cols) (hin : ∀ c ∈ cols, 0 ≤ c ∧ c < sizes.length) (hd : ∀ d ∈ dimsOf sizes cols, 1 ≤ d ∧ d ≤ 6) (hne : cols ≠ []) (h3 : cols.length ≤ 3)
    (he : lookupE env 5 = .ptr 0 0) {W : Nat} (hW : prodI (dimsOf sizes cols) = W) (hW1 : W ≤ 1000) (hW0 : 1 ≤ W)
    (hb : ∀ k, k ≤ cols.length → 0 ≤ prodI ((dimsOf sizes cols).take k) ∧ prodI ((dimsOf sizes cols).take k) < 4611686018427387904) :
    ∃ low', callL tab (.fn 62 [] [.ptr 2 0, .ptr 1 0]) [.yield 3] [outC [], .cells [sv], .cells [cv], loopO env] = some (.tup [], heapS sv cv env (tk (dimsOf sizes cols) W) (Lk (dimsOf sizes cols) W), low') := by
  generalize hds : dimsOf sizes cols = ds at *
  have hdl : ds.length = cols.length := by rw [← hds]; simp [dimsOf]
  have hpos : 0 < cols.length := List.length_pos_iff.2 hne
  have key := range_loop (tab := tab) (b := 13) (n := 11) (i := 12) (t := 47) (blk := 1) (ex := 0) (body := F62L1)
    (I := fun k st => st.H = heapS sv cv env (tk ds k) (Lk ds k) ∧ st.low ≤ st.H.length ∧ lookupE st.vE 0 = .yield 3 ∧ lookupE st.vE 1 = .ptr 2 0 ∧ lookupE st.vE 2 = .ptr 1 0 ∧ lookupE st.vE 4 = .sref 4 1 0 cols.length cols.length ∧
      lookupE st.vE 12 = .int .i64 k ∧ lookupE st.vE 11 = .int .i64 W ∧ (0 < k → st.low = 0))
    (Q := fun x st => x = .exit 0 ∧ st.H = heapS sv cv env (tk ds W) (Lk ds W) ∧ st.low = 0)
    (N := W) (by omega) (by decide) (by decide)
    (fun k st h => ⟨h.2.2.2.2.2.2.1, h.2.2.2.2.2.2.2.1, h.2.1⟩)
    (by
      rintro k st hk ⟨q1, q2, q3, q4, q5, q6, q7, q8, -⟩
      have hlen : (tk ds k).length = cols.length := (tk_inR (fun d h => (hd d h).1) k).1.trans hdl
      have h4 : (heapS sv cv env (tk ds k) (Lk ds k))[4]? = some (.row 1 ((tk ds k).map (.int .i64)) false) := rfl
      have hcl := clone_row_s (ds := tk ds k) h4 (by intro e; rw [e] at hlen; simp at hlen; omega) (by omega)
      unfold Ans at hcl
      rw [hlen] at hcl
      have hy := yield_step (sv := sv) (cv := cv) (env := env) (t := tk ds k) (L := Lk ds k) (tv := tv (tk ds k)) he (by simp [Lk]; omega) rfl rfl rfl
      have hL : Lk ds k ++ [tv (tk ds k)] = Lk ds (k + 1) := by simp [Lk, List.range_succ]
      rw [hL] at hy
      simp only [tv] at hy
      have h4' : (heapS sv cv env (tk ds k) (Lk ds (k + 1)))[4]? = some (.row 1 ((tk ds k).map (.int .i64)) false) := rfl
      have hll : ∀ L, 0 < (heapS sv cv env (tk ds k) L).length := fun L => by simp [heapS]
      have hw : IntKind.i64.wrap ((cols.length : Int) - 1) = (cols.length : Int) - 1 := by rw [wrap_small] <;> omega
      -- up to the inner loop
      obtain ⟨st1, a1, a2, a3, a4, a5⟩ := inc_loop hs hc hin rfl (o0 := outC (Lk ds (k + 1))) (o3 := loopO env) (B := outRow (Lk ds (k + 1))) cols.length (tk ds k)
        { tE := [], vE := setE (setE (setE st.vE 13 (.bool true)) 18 (.bool false)) 5 (.int .i64 ((cols.length : Int) - 1)), H := heapS sv cv env (tk ds k) (Lk ds (k + 1)), low := 0, ro := st.ro } hlen (Nat.le_refl _) (tk_bound hd k) rfl (Nat.zero_le _)
        (by simp [lookE_setE, q6]) (by simp [lookE_setE]) (by simp [lookE_setE, q5]) (by simp [lookE_setE, q4])
      have alow := execL_low a1 (Nat.zero_le _)
      have hnot : ∀ L, (heapS sv cv env (tk ds k) L).length ≠ 0 := fun L => Nat.ne_of_gt (hll L)
      refine ⟨.normal, st1, by simp [F62L1, callBody, zipE, execL_seq, execL_region, execL_cond, execL_skip, execL_ret, execL_exit, execL_block, execOps, wantedA, S_mv, S_pick, S_bin, S_un, S_call0, S_call1, S_extract, S_nilEq, S_load, S_alloc, Opd.ev, lookupE, lookE_setE, St.put, binA, unA, boolOf, freezeVs, freezeV, freeze1, isP, isPs, resultsA, resultA, finish, old, olds, flat, movedH_same, Nat.min_self, loadA, readCells, cellsV_int, q1, q3, q6, hcl, hy, hll, hnot, S_lenR, isRow, h4', hlen, hw, a1], ?_⟩
      simp only [true_or, if_true]
      have hnext : st1.H = heapS sv cv env (tk ds (k + 1)) (Lk ds (k + 1)) := by
        rw [a2, hds]
        simp only [tk, hdl]
        rfl
      refine ⟨by rw [a5 12 (by decide) (by decide) (by decide)]; simp [lookE_setE, q7], a3, hnext, by rw [← hnext] at *; exact a3, ?_, ?_, ?_, ?_, ?_, ?_, fun _ => Nat.le_zero.1 alow⟩
      · simp only [lookE_setE]; rw [a5 0 (by decide) (by decide) (by decide)]; simp [lookE_setE, q3]
      · simp only [lookE_setE]; rw [a5 1 (by decide) (by decide) (by decide)]; simp [lookE_setE, q4]
      · simp only [lookE_setE]; rw [a5 2 (by decide) (by decide) (by decide)]; simp [lookE_setE, q5]
      · simp only [lookE_setE]; rw [a5 4 (by decide) (by decide) (by decide)]; simp [lookE_setE, q6]
      · simp [lookE_setE]
      · simp only [lookE_setE]; rw [a5 11 (by decide) (by decide) (by decide)]; simp [lookE_setE, q8])
    (by
      rintro st ⟨q1, q2, q3, q4, q5, q6, q7, q8, q9⟩
      exact ⟨rfl, q1, q9 (by omega)⟩)
  have hwid := width_s (H := heapS sv cv env (tk ds 0) []) hs hc hin (by rw [hds]; exact hb)
  unfold Ans at hwid
  rw [hds, hW] at hwid
  have hwid5 : callL tab (.fn 34 [] []) [sv, cv] (heapS sv cv env (tk ds 0) []) = some (.int .i64 W, heapS sv cv env (tk ds 0) [], 5) := hwid
  have hheap : [outC [], .cells [sv], .cells [cv], loopO env, AObj.row 1 (List.replicate cols.length (V.int .i64 0)) false] = heapS sv cv env (tk ds 0) [] := by
    simp [heapS, outRow, rowI, tk, hdl]
  obtain ⟨x, st', h1, rfl, h2, hlow⟩ := key W 0 { tE := [], vE := [(0, .yield 3), (1, .ptr 2 0), (2, .ptr 1 0), (4, .sref 4 1 0 cols.length cols.length), (11, .int .i64 W), (12, .int .i64 0)], H := heapS sv cv env (tk ds 0) [], low := 4 } (by omega)
    ⟨rfl, by simp [heapS], rfl, rfl, rfl, rfl, rfl, rfl, fun h => absurd h (by omega)⟩
  refine ⟨0, ?_⟩
  rw [callL_fn, show tab 62 = some (.code F62) from rfl]
  have hcap : (cols.length : Int) * 9 ≤ 1099511627776 := by omega
  have hnz : (cols.length : Int) ≠ 0 := by omega
  have hnz' : cols.length ≠ 0 := by omega
  have hnn : (0 : Int) ≤ (cols.length : Int) := by omega
  have g1 : (heapS sv cv env (tk ds 0) [])[1]? = some (.cells [sv]) := rfl
  have g2 : (heapS sv cv env (tk ds 0) [])[2]? = some (.cells [cv]) := rfl
  have g1E : ∀ h : 1 < (heapS sv cv env (tk ds 0) []).length, (heapS sv cv env (tk ds 0) [])[1]'h = .cells [sv] := fun _ => rfl
  have g2E : ∀ h : 2 < (heapS sv cv env (tk ds 0) []).length, (heapS sv cv env (tk ds 0) [])[2]'h = .cells [cv] := fun _ => rfl
  have gl : (heapS sv cv env (tk ds 0) []).length = 5 := rfl
  simp [F62, callBody, zipE, execL_seq, execL_region, execL_cond, execL_skip, execL_ret, execL_exit, execL_block, execOps, wantedA, S_mv, S_pick, S_bin, S_un, S_call0, S_call1, S_extract, S_nilEq, S_load, S_alloc, Opd.ev, lookupE, setE, St.put, binA, unA, boolOf, freezeVs, freezeV, freeze1, isP, isPs, resultsA, resultA, finish, old, olds, flat, movedH_same, Nat.min_self, loadA, readCells, cellsV_int, S_len 1, hc.sl, hs.sl, hc.len, S_mkSlice, step, hcap, hnz, hnz', hne, hnn, zeroElem, hheap, slE_isP hs.sl, slE_isP hc.sl, g1, g2, g1E, g2E, gl, hwid5, h1, h2, hlow]
end Go.Abs.T09
