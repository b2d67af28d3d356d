/- The odometer of cells.Tuples. -/
import Derived.Test.YteiajndkjnlmiaaGreatDoorXS3
set_option linter.unusedVariables false
set_option linter.unusedSimpArgs false
namespace Go.Abs.T09
open Go Go.Abs

def isRow : V → Bool
  | .sref .. => true
  | _ => false

section
variable {call : CallT} {ev : Opd → V} {H : Heap} {low : Nat}
theorem S_lenR {x : Opd} (h : isRow (ev x) = true) : stepC call ev H low (.len 1 x) = match ev x with
    | .sref l es _ len tag => (match H[l]? with
      | some (.row es' ds _) => if es' = es ∧ ds.length = tag then some (.int .i64 len, H, low) else none
      | _ => none)
    | _ => none := by
  show step ev H low (.len 1 x) = _
  cases hx : ev x <;> simp_all [isRow, step]
  rename_i l _ _ _ _
  cases H[l]? with
  | none => rfl
  | some o => cases o <;> rfl
theorem S_indexR {es : Nat} {x i : Opd} (h : isRow (ev x) = true) : stepC call ev H low (.indexAddr es x i) = match natOf (ev i) with
    | some i => (match ev x with
      | .sref l es' off len tag => (match H[l]? with
        | some (.row es'' ds _) => if es' = es ∧ es'' = es ∧ ds.length = tag ∧ i < len ∧ off + len ≤ ds.length then some (.eptr l es (off + i) 0 tag, H, low) else none
        | _ => none)
      | _ => none)
    | none => none := by
  show step ev H low (.indexAddr es x i) = _
  cases hx : ev x <;> simp_all [isRow, step]
  rename_i l _ _ _ _
  cases natOf (ev i) with
  | none => rfl
  | some k =>
    cases H[l]? with
    | none => rfl
    | some o => cases o <;> rfl
end

def incAt (ds : List Int) : Nat → List Int → List Int
  | 0, t => t
  | i + 1, t => if (t[i]?).getD 0 + 1 < (ds[i]?).getD 0 then t.set i ((t[i]?).getD 0 + 1) else incAt ds i (t.set i 0)

theorem incAt_length (ds : List Int) : ∀ (i : Nat) (t : List Int), (incAt ds i t).length = t.length
  | 0, t => rfl
  | i + 1, t => by
    simp only [incAt]
    split
    · simp
    · rw [incAt_length ds i]; simp

def rowI (t : List Int) : AObj := .row 1 (t.map (.int .i64)) false

set_option maxHeartbeats 1000000 in
theorem inc_loop {sv cv : V} {sizes cols : List Int} (hs : VI sv sizes) (hc : VI cv cols) (hin : ∀ c ∈ cols, 0 ≤ c ∧ c < sizes.length) {n : Nat} (hn : cols.length = n) {o0 o3 : AObj} {B : Heap} :
    ∀ (i : Nat) (t : List Int) (st : St), t.length = n → i ≤ n → (∀ x ∈ t, -1000 ≤ x ∧ x ≤ 1000) → st.H = o0 :: .cells [sv] :: .cells [cv] :: o3 :: rowI t :: B → st.low ≤ st.H.length →
      lookupE st.vE 4 = .sref 4 1 0 n n → lookupE st.vE 5 = .int .i64 ((i : Int) - 1) → lookupE st.vE 2 = .ptr 1 0 → lookupE st.vE 1 = .ptr 2 0 →
      ∃ st', execL tab (.loop F62L0) st = some (.exit 2, st') ∧ st'.H = o0 :: .cells [sv] :: .cells [cv] :: o3 :: rowI (incAt (dimsOf sizes cols) i t) :: B ∧ st'.low ≤ st'.H.length ∧ st'.ro = st.ro ∧ ∀ s, s ≠ 5 → s ≠ 23 → s ≠ 43 → lookupE st'.vE s = lookupE st.vE s
  | 0, t, st, ht, hi, hx, h4, hl, l4, l5, l2, l1 => by
    rw [execL_loop]
    simp only [F62L0]
    refine ⟨_, by simp [callBody, zipE, execL_seq, execL_region, execL_cond, execL_skip, execL_ret, execL_exit, execL_block, execOps, wantedA, S_mv, S_pick, S_bin, S_un, S_call0, S_call1, S_extract, S_nilEq, S_load, S_alloc, Opd.ev, lookupE, lookE_setE, St.put, binA, unA, boolOf, freezeVs, freezeV, freeze1, isP, isPs, resultsA, resultA, finish, old, olds, flat, movedH_same, Nat.min_self, loadA, readCells, cellsV_int, l5]; rfl, ?_⟩
    simp only [incAt, lookE_setE]
    exact ⟨h4, by omega, trivial, fun s a b c => by simp [b]⟩
  | i + 1, t, st, ht, hi, hx, h4, hl, l4, l5, l2, l1 => by
    have hit : i < t.length := by omega
    obtain ⟨x, hxi⟩ : ∃ x, t[i]? = some x := ⟨_, List.getElem?_eq_getElem hit⟩
    have hxb := hx x (List.mem_of_getElem? hxi)
    obtain ⟨c, hcc⟩ : ∃ c, cols[i]? = some c := ⟨_, List.getElem?_eq_getElem (by omega)⟩
    obtain ⟨c0, c1⟩ := hin c (List.mem_of_getElem? hcc)
    obtain ⟨d, hd⟩ : ∃ d, sizes[c.toNat]? = some d := ⟨_, List.getElem?_eq_getElem (by omega)⟩
    have hdim : (dimsOf sizes cols)[i]? = some d := by simp [dimsOf, hcc, hd]
    have hgc := hc.get hcc
    have hgd := hs.get hd
    have e5 : ((i + 1 : Nat) : Int) - 1 = (i : Int) := by omega
    rw [e5] at l5
    have hw : IntKind.i64.wrap (x + 1) = x + 1 := by rw [wrap_small] <;> omega
    have hcl := hc.lt
    have hw2 : IntKind.i64.wrap ((i : Int) - 1) = (i : Int) - 1 := by rw [wrap_small] <;> omega
    have hge : (0 : Int) ≤ (i : Int) := by omega
    have hin' : i < n := by omega
    have hgi : (t.map (V.int .i64))[i]? = some (.int .i64 x) := by simp [hxi]
    have hlen : (t.map (V.int .i64)).length = n := by simp [ht]
    have hset : ((t.map (V.int .i64)).set i (.int .i64 (x + 1)))[i]? = some (.int .i64 (x + 1)) := by simp [hit]
    rw [execL_loop]
    simp only [rowI] at h4
    generalize hds : t.map (V.int .i64) = ds at *
    have hgE : ∀ h : i < ds.length, ds[i]'h = .int .i64 x := fun h => by rw [List.getElem?_eq_getElem h] at hgi; exact Option.some.inj hgi
    by_cases hxd : x + 1 < d
    · refine ⟨_, by simp [F62L0, callBody, zipE, execL_seq, execL_region, execL_cond, execL_skip, execL_ret, execL_exit, execL_block, execOps, wantedA, S_mv, S_pick, S_bin, S_un, S_call0, S_call1, S_extract, S_nilEq, S_load, S_alloc, Opd.ev, lookupE, lookE_setE, St.put, binA, unA, boolOf, freezeVs, freezeV, freeze1, isP, isPs, resultsA, resultA, finish, old, olds, flat, movedH_same, Nat.min_self, loadA, readCells, cellsV_int, l5, l4, l2, l1, h4, S_index, S_indexR, isRow, hc.sl, hs.sl, hlen, hgi, hgE, hset, hw, S_store, storeA, putElem, plainCells, plainCell, hge, hgc, hgd, natOf_nonneg _ c0, hin', inOrder, hxd, movedH]; rfl, ?_⟩
      simp only [incAt, hxi, hdim, Option.getD_some, hxd, if_true, lookE_setE]
      refine ⟨by simp [rowI, List.map_set, hds], by simp; omega, trivial, fun s a b c => by simp [b, c]⟩
    · have hstep : ∃ st1, execL tab F62L0 st = some (.normal, st1) ∧ st1.H = o0 :: .cells [sv] :: .cells [cv] :: o3 :: rowI (t.set i 0) :: B ∧ st1.low ≤ st1.H.length ∧ st1.ro = st.ro ∧ lookupE st1.vE 5 = .int .i64 ((i : Int) - 1) ∧
          ∀ s, s ≠ 5 → s ≠ 23 → s ≠ 43 → lookupE st1.vE s = lookupE st.vE s := by
        refine ⟨_, by simp [F62L0, callBody, zipE, execL_seq, execL_region, execL_cond, execL_skip, execL_ret, execL_exit, execL_block, execOps, wantedA, S_mv, S_pick, S_bin, S_un, S_call0, S_call1, S_extract, S_nilEq, S_load, S_alloc, Opd.ev, lookupE, lookE_setE, St.put, binA, unA, boolOf, freezeVs, freezeV, freeze1, isP, isPs, resultsA, resultA, finish, old, olds, flat, movedH_same, Nat.min_self, loadA, readCells, cellsV_int, l5, l4, l2, l1, h4, S_index, S_indexR, isRow, hc.sl, hs.sl, hlen, hgi, hgE, hset, hw, hw2, S_store, storeA, putElem, plainCells, plainCell, hge, hgc, hgd, natOf_nonneg _ c0, hin', inOrder, hxd, movedH]; rfl, ?_⟩
        simp only [lookE_setE]
        refine ⟨by simp [rowI, List.map_set, hds], by simp; omega, trivial, by simp, fun s a b c => by simp [a, b, c]⟩
      obtain ⟨st1, q1, q2, q3, q4, q5, q6⟩ := hstep
      rw [q1]
      obtain ⟨st', r1, r2, r3, r4, r5⟩ := inc_loop hs hc hin hn i (t.set i 0) st1 (by simp [ht]) (by omega) (fun y hy => by
          rcases List.mem_or_eq_of_mem_set hy with h | rfl
          · exact hx y h
          · omega) q2 q3 (by rw [q6 4 (by decide) (by decide) (by decide)]; exact l4) q5 (by rw [q6 2 (by decide) (by decide) (by decide)]; exact l2) (by rw [q6 1 (by decide) (by decide) (by decide)]; exact l1)
      refine ⟨st', r1, ?_, r3, r4.trans q4, fun s a b c => (r5 s a b c).trans (q6 s a b c)⟩
      rw [r2]
      simp only [incAt, hxi, hdim, Option.getD_some, if_neg hxd]
end Go.Abs.T09
