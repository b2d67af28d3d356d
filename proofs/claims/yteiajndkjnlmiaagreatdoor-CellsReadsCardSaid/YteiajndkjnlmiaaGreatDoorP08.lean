/- lexer.Words, whole. -/
import Derived.Test.YteiajndkjnlmiaaGreatDoorP07
import Derived.Test.YteiajndkjnlmiaaGreatDoorP06
set_option linter.unusedVariables false
set_option linter.unusedSimpArgs false
namespace Go.Abs.T09
open Go Go.Abs

theorem OutW.keep {n m : Nat} {H H' : Heap} {v : V} {out : List (List UInt8)} (h : OutW n H v out) (hl : H.length ≤ H'.length) (hk : ∀ q es ds fz, q ≠ m → H[q]? = some (.row es ds fz) → H'[q]? = some (.row es ds fz)) (hm : m < n + 6) : OutW n H' v out := by
  rcases h with h | ⟨h, q, q1, q2, q3, q4⟩
  · exact .inl h
  · exact .inr ⟨h, q, q1, by omega, q3, hk q _ _ _ (by omega) q4⟩

/-- The word of a token. -/
def wordAt (s : List UInt8) (at0 : Nat) : List UInt8 := (s.take (tokEnd s at0)).drop (tokAt s at0)

set_option maxHeartbeats 2000000 in
theorem word_yield {n at0 : Nat} {s : List UInt8} {H : Heap} {out : List (List UInt8)} (h : WH n s H out) (hat : at0 ≤ s.length) (hcap : out.length ≤ 5000) :
    ∃ H2 low2, callL tab (.yield (n + 5)) [.agg (tokV s at0)] (H ++ [.cells (tokV s at0)]) = some (.bool true, H2, low2) ∧ n ≤ low2 ∧ low2 ≤ n + 5 ∧ H.length ≤ H2.length ∧
      WH n s H2 (if tokKind (s.drop (tokAt s at0)) = 0 then out else out ++ [wordAt s at0]) ∧ H2[H.length]? = some (.cells (tokV s at0)) := by
  have hlen := h.len
  obtain ⟨v, hv, hout⟩ := h.out
  have hte : tokAt s at0 ≤ tokEnd s at0 := by unfold tokEnd; omega
  have hts := tokEnd_le hat
  obtain ⟨Hx, hHx⟩ : ∃ Hx, H ++ [AObj.cells (tokV s at0)] = Hx := ⟨_, rfl⟩
  have hxl : Hx.length = H.length + 1 := by rw [← hHx]; simp
  have x0 : ∀ {j o}, H[j]? = some o → Hx[j]? = some o := fun hj => by rw [← hHx]; exact get_app hj _
  have xT : Hx[H.length]? = some (.cells (tokV s at0)) := by rw [← hHx]; simp
  obtain ⟨Hb, hHb⟩ : ∃ Hb, (Hx ++ [AObj.cells (tokV s at0)]).set (n + 5) (.loop .busy .normal (wEnv s n) [10] F20A0 F20B0) = Hb := ⟨_, rfl⟩
  have hbl : Hb.length = H.length + 2 := by rw [← hHb]; simp; omega
  have b0 : ∀ {j o}, j ≠ n + 5 → H[j]? = some o → Hb[j]? = some o := fun hj hjo => by rw [← hHb, List.getElem?_set_ne (by omega)]; exact get_app (x0 hjo) _
  have bT : Hb[H.length]? = some (.cells (tokV s at0)) := by rw [← hHb, List.getElem?_set_ne (by omega)]; exact get_app xT _
  have bP : Hb[H.length + 1]? = some (.cells (tokV s at0)) := by rw [← hHb, List.getElem?_set_ne (by omega), ← hxl]; simp
  have bL : Hb[n + 5]? = some (.loop .busy .normal (wEnv s n) [10] F20A0 F20B0) := by rw [← hHb, List.getElem?_set_self (by simp; omega)]
  have hob : OutW n Hb v out := hout.keep (m := n + 5) (by omega) (fun q es ds fz hq hr => b0 hq hr) (by omega)
  have hA : execL tab F20A0 { tE := [], vE := setE (wEnv s n) 10 (.agg (tokV s at0)), H := Hx, low := Hx.length, ro := some (n + 5) } = some (.normal, { tE := [], vE := setE (setE (wEnv s n) 10 (.agg (tokV s at0))) 4 (.ptr (H.length + 1) 0), H := Hx ++ [.cells (tokV s at0)], low := Hx.length, ro := some (n + 5) }) := by
    unfold tokV
    simp [F20A0, wEnv, callBody, zipE, execL_seq, execL_region, execL_cond, execL_skip, execL_ret, execL_exit, execL_block, execOps, wantedA, S_mv, S_pick, S_bin, S_un, S_call0, S_call1, S_extract, S_nilEq, S_load, S_alloc, S_box, Opd.ev, lookupE, setE, St.put, binA, unA, boolOf, freezeVs, freezeV, freeze1, isP, isPs, resultsA, resultA, finish, old, olds, flat, movedH_same, Nat.min_self, loadA, readCells, cellsV, S_store, storeA, setCells, cellsOk, cellOk, hxl, set_off0, get_off0]
  have gx : Hx[n + 5]? = some (wLoop s n) := x0 h.gl
  have gx2 : (Hx ++ [AObj.cells (tokV s at0)])[n + 5]? = some (wLoop s n) := get_app gx _
  -- the body
  have body : ∃ st', execL tab F20B0 { tE := [], vE := setE (setE (wEnv s n) 10 (.agg (tokV s at0))) 4 (.ptr (H.length + 1) 0), H := Hb, low := n + 5, ro := some (n + 5) } = some (.normal, st') ∧ n ≤ st'.low ∧ st'.low ≤ n + 5 ∧ Hb.length ≤ st'.H.length ∧ keepO (n + 1) Hb st'.H ∧
      ∃ v', st'.H[n + 1]? = some (.cells [v']) ∧ OutW n st'.H v' (if tokKind (s.drop (tokAt s at0)) = 0 then out else out ++ [wordAt s at0]) := by
    by_cases hK : tokKind (s.drop (tokAt s at0)) = 0
    · have bPE : ∀ h : H.length + 1 < Hb.length, Hb[H.length + 1]'h = .cells (tokV s at0) := fun h => by rw [List.getElem?_eq_getElem h] at bP; exact Option.some.inj bP
      unfold tokV at bP bPE
      rw [hK] at bP bPE
      have n5 : min (n + 5) Hb.length = n + 5 := Nat.min_eq_left (by omega)
      refine ⟨_, by simp [F20B0, wEnv, callBody, zipE, execL_seq, execL_region, execL_cond, execL_skip, execL_ret, execL_exit, execL_block, execOps, wantedA, S_mv, S_pick, S_bin, S_un, S_call0, S_call1, S_extract, S_nilEq, S_load, S_alloc, S_box, Opd.ev, lookupE, setE, St.put, binA, unA, boolOf, freezeVs, freezeV, freeze1, isP, isPs, resultsA, resultA, finish, old, olds, flat, movedH_same, Nat.min_self, loadA, readCells, cellsV, S_fieldAddr, bP, bPE, n5]; rfl, by simp, by simp, by simp, fun j o hj hjo _ => by simpa using hjo, v, by simpa using b0 (by omega) hv, ?_⟩
      rw [if_pos hK]
      exact hob
    · obtain ⟨st', v', a1, a2, a3, a4, a5, a6, a7⟩ := word_body (n := n) (p := H.length + 1) (lo := n + 5) (s := s) (Hb := Hb) (v := v) (b0 (by omega) h.g0) (b0 (by omega) hv) bP (by omega) hob hte hts hcap hK
        (st := { tE := [], vE := setE (setE (wEnv s n) 10 (.agg (tokV s at0))) 4 (.ptr (H.length + 1) 0), H := Hb, low := n + 5, ro := some (n + 5) }) rfl rfl (by omega) (by omega) rfl rfl rfl
      exact ⟨st', a1, a2, a3, a4, a7, v', a5, by rw [if_neg hK]; exact a6⟩
  obtain ⟨st', q1, q2, q3, q4, q5, v', q6, q7⟩ := body
  have hl5 : st'.H[n + 5]? = some (.loop .busy .normal (wEnv s n) [10] F20A0 F20B0) := q5 (n + 5) _ (by omega) bL (fun _ _ _ => by simp)
  refine ⟨st'.H.set (n + 5) (wLoop s n), min st'.low (n + 5), ?_, by omega, by omega, by simp; omega, ?_, ?_⟩
  · rw [callL_yield, hHx]
    unfold yieldBody
    rw [gx]
    simp only [wLoop, List.length_cons, List.length_nil, if_true, List.zip_cons_cons, List.zip_nil_right, List.foldl_cons, List.foldl_nil]
    rw [hA]
    simp only []
    rw [gx2]
    simp only [wLoop]
    have hmn : min Hx.length (n + 5) = n + 5 := Nat.min_eq_right (by omega)
    rw [hHb, hmn, q1]
    simp only []
    rw [hl5]
    simp
  · have hs : ∀ {j o}, j ≠ n + 5 → j ≠ n + 1 → H[j]? = some o → (∀ es ds fz, o ≠ .row es ds fz) → (st'.H.set (n + 5) (wLoop s n))[j]? = some o := fun h1 h2 h3 h4 => by
      rw [List.getElem?_set_ne (by omega)]; exact q5 _ _ h2 (b0 h1 h3) h4
    exact ⟨by simp; omega, hs (by omega) (by omega) h.g0 (fun _ _ _ => by simp), hs (by omega) (by omega) h.gt (fun _ _ _ => by simp), hs (by omega) (by omega) h.gm (fun _ _ _ => by simp), hs (by omega) (by omega) h.gp (fun _ _ _ => by simp),
      by rw [List.getElem?_set_self (by omega)], v', by rw [List.getElem?_set_ne (by omega)]; exact q6,
      q7.keep (m := n + 5) (by simp) (fun q es ds fz hq hr => by rw [List.getElem?_set_ne (by omega)]; exact hr) (by omega)⟩
  · rw [List.getElem?_set_ne (by omega)]
    exact q5 _ _ (by omega) bT (fun _ _ _ => by simp)

theorem tok_loop {n : Nat} {s : List UInt8} (hl : s.length ≤ 4096) : ∀ {r : List UInt8} {ws : List (List UInt8)}, Lex r ws → ∀ (at0 : Nat) (H : Heap) (out : List (List UInt8)) (st : St), s.drop at0 = r → at0 ≤ s.length → WH n s H out → out.length + ws.length ≤ 5000 →
    st.H = H → n ≤ st.low → st.low ≤ H.length → lookupE st.vE 0 = .yield (n + 5) → lookupE st.vE 1 = .ptr (n + 2) 0 → lookupE st.vE 2 = .ptr (n + 4) 0 → lookupE st.vE 4 = .int .i64 at0 →
    ∃ st', execL tab (.loop F68L1) st = some (.ret, st') ∧ WH n s st'.H (out ++ ws) ∧ n ≤ st'.low ∧ st'.low ≤ n + 5 := by
  intro r ws hx
  induction hx with
  | done r hk =>
    intro at0 H out st hr hat hw hcap h1 h2 h3 l0 l1 l2 l4
    obtain ⟨H2, low2, hy, y1, y2, y3, y4, y5⟩ := word_yield hw hat (by simp at hcap; omega)
    have hlen := hw.len
    have e0 : tokKind (s.drop (tokAt s at0)) = 0 := by
      unfold tokAt
      rw [← List.drop_drop, hr]; exact hk
    obtain ⟨x, st', q1, q2, q3, q4, q5, q6, q7⟩ := token_round (s := s) (H := H) (H2 := H2) (p1 := n + 2) (p2 := n + 4) (m := n + 3) (L := n + 5) (at0 := at0) (low2 := low2) (m0 := n) (b := true) (by omega) hat hw.gt hw.gp hw.gm h1 h2 h3 l0 l1 l2 l4 hy (by omega) y1 (by omega) (fun _ => y5)
    rw [e0] at q2
    simp at q2
    subst q2
    rw [e0, if_pos rfl] at y4
    exact ⟨st', by rw [execL_loop, q1], by rw [q3, List.append_nil]; exact y4, q4, by omega⟩
  | more r ws hk hws ih =>
    intro at0 H out st hr hat hw hcap h1 h2 h3 l0 l1 l2 l4
    obtain ⟨H2, low2, hy, y1, y2, y3, y4, y5⟩ := word_yield hw hat (by simp at hcap; omega)
    have hlen := hw.len
    have e1 : s.drop (tokAt s at0) = r.drop (skipL false r) := by
      unfold tokAt
      rw [← List.drop_drop, hr]
    have e0 : tokKind (s.drop (tokAt s at0)) ≠ 0 := by rw [e1]; exact hk
    obtain ⟨x, st', q1, q2, q3, q4, q5, q6, q7⟩ := token_round (s := s) (H := H) (H2 := H2) (p1 := n + 2) (p2 := n + 4) (m := n + 3) (L := n + 5) (at0 := at0) (low2 := low2) (m0 := n) (b := true) (by omega) hat hw.gt hw.gp hw.gm h1 h2 h3 l0 l1 l2 l4 hy (by omega) y1 (by omega) (fun _ => y5)
    have q2' : x = .normal := by rw [q2]; simp [e0]
    subst q2'
    rw [if_neg e0] at y4
    have hword : wordAt s at0 = (r.drop (skipL false r)).take (tokLen (r.drop (skipL false r))) := by
      unfold wordAt tokEnd
      rw [e1, List.drop_take, e1]
      congr 1
      omega
    have hd : s.drop (tokEnd s at0) = (r.drop (skipL false r)).drop (tokLen (r.drop (skipL false r))) := by
      unfold tokEnd
      rw [e1, ← List.drop_drop, e1]
    obtain ⟨st2, r1, r2, r3, r3'⟩ := ih (tokEnd s at0) H2 (out ++ [wordAt s at0]) st' hd (tokEnd_le hat) y4 (by simp at hcap ⊢; omega) q3 q4 (by omega) ((q7 0 (by decide)).trans l0) ((q7 1 (by decide)).trans l1) ((q7 2 (by decide)).trans l2) q6
    refine ⟨st2, by rw [execL_loop, q1]; exact r1, ?_, r3, r3'⟩
    rw [hword] at r2
    simpa using r2

theorem isPs_strs (l : List (List UInt8)) : isPs (l.map V.str) = true := by induction l <;> simp_all [isPs, isP]
def wordsV (ws : List (List UInt8)) : V := if ws = [] then .nil0 else .list 1 (ws.map .str)

set_option maxHeartbeats 1000000 in
theorem words_s {s : List UInt8} {ws : List (List UInt8)} (hl : s.length ≤ 4096) (hx : Lex s ws) (hcap : ws.length ≤ 5000) (H : Heap) : Ans (.fn 20 [] []) [.str s] H (wordsV ws) := by
  unfold Ans
  have e1 : ¬ (4096 : Int) < (s.length : Int) := by omega
  have ht := tokens_s s (H ++ [.cells [.str s], .cells [.nil0]])
  simp only [List.length_append, List.length_cons, List.length_nil, Nat.zero_add, List.append_assoc, List.cons_append, List.nil_append, Nat.add_assoc, Nat.reduceAdd] at ht
  obtain ⟨H0, hH0⟩ : ∃ H0, H ++ [AObj.cells [.str s], .cells [.nil0], .cells [.str s], .map kwEnts, .cells [.map (H.length + 3)], wLoop s H.length] = H0 := ⟨_, rfl⟩
  have hlen0 : H0.length = H.length + 6 := by rw [← hH0]; simp
  have hw0 : WH H.length s H0 [] := ⟨by omega, by rw [← hH0, get_off0]; rfl, by rw [← hH0, get_off]; rfl, by rw [← hH0, get_off]; rfl, by rw [← hH0, get_off]; rfl, by rw [← hH0, get_off]; rfl, .nil0, by rw [← hH0, get_off]; rfl, .inl ⟨rfl, rfl⟩⟩
  obtain ⟨st', r1, r2, r3, r3'⟩ := tok_loop (n := H.length) hl hx 0 H0 [] { tE := [], vE := [(0, .yield (H.length + 5)), (1, .ptr (H.length + 2) 0), (2, .ptr (H.length + 4) 0), (4, .int .i64 0)], H := H0, low := H0.length } (by simp) (Nat.zero_le _) hw0 (by simpa using hcap) rfl (by rw [hlen0]; simp) (Nat.le_refl _) rfl rfl rfl rfl
  rw [List.nil_append] at r2
  have h68 : callL tab (.fn 68 [] [.ptr (H.length + 2) 0, .ptr (H.length + 4) 0]) [.yield (H.length + 5)] H0 = some (.tup [], st'.H, st'.low) := by
    rw [callL_fn, show tab 68 = some (.code F68) from rfl]
    have hnl : ¬ H0.length ≤ st'.low := by omega
    simp [F68, callBody, zipE, execL_seq, execL_region, execL_cond, execL_skip, execL_ret, execL_exit, execL_block, execOps, wantedA, S_mv, S_pick, S_bin, S_un, S_call0, S_call1, S_extract, S_nilEq, S_load, S_alloc, S_box, Opd.ev, lookupE, setE, St.put, binA, unA, boolOf, freezeVs, freezeV, freeze1, isP, isPs, resultsA, resultA, finish, old, olds, flat, movedH_same, Nat.min_self, loadA, readCells, cellsV, r1, hnl]
  rw [← hH0] at h68
  obtain ⟨v, g1, g2⟩ := r2.out
  have gl := r2.gl
  have hlen := r2.len
  have c1 : (st'.H.set (H.length + 5) .gone)[H.length + 1]? = some (.cells [v]) := by rw [List.getElem?_set_ne (by omega)]; exact g1
  have hmin : min H.length st'.low = H.length := Nat.min_eq_left r3
  have hmin3 : min H.length st'.H.length = H.length := Nat.min_eq_left (by omega)
  simp only [wLoop, wEnv] at h68 gl
  rw [callL_fn, show tab 20 = some (.code F20) from rfl]
  unfold wordsV
  rcases g2 with ⟨rfl, rfl⟩ | ⟨hne, q, q1, q2, rfl, q3⟩
  · simp [F20, callBody, zipE, execL_seq, execL_region, execL_cond, execL_skip, execL_ret, execL_exit, execL_block, execOps, wantedA, S_mv, S_pick, S_bin, S_un, S_call0, S_call1, S_extract, S_nilEq, S_load, S_alloc, S_box, Opd.ev, lookupE, setE, St.put, binA, unA, boolOf, freezeVs, freezeV, freeze1, isP, isPs, resultsA, resultA, finish, old, olds, flat, movedH_same, Nat.min_self, loadA, readCells, cellsV, cellsOk, cellOk, S_store, storeA, setCells, get_off, get_off0, set_off, set_off0, e1, S_len0, ht, execL_range, roOk, isFn, h68, gl, c1, hmin, hmin3]
  · have c2 : (st'.H.set (H.length + 5) .gone)[q]? = some (.row 1 (ws.map .str) false) := by rw [List.getElem?_set_ne (by omega)]; exact q3
    have hip := isPs_strs ws
    have htk : List.take ws.length (ws.map V.str) = ws.map V.str := List.take_of_length_le (by simp)
    have hmq : min H.length q = H.length := Nat.min_eq_left (by omega)
    have hmin4 : min H.length (min st'.H.length q) = H.length := Nat.min_eq_left (by omega)
    simp [F20, callBody, zipE, execL_seq, execL_region, execL_cond, execL_skip, execL_ret, execL_exit, execL_block, execOps, wantedA, S_mv, S_pick, S_bin, S_un, S_call0, S_call1, S_extract, S_nilEq, S_load, S_alloc, S_box, Opd.ev, lookupE, setE, St.put, binA, unA, boolOf, freezeVs, freezeV, freeze1, isP, isPs, resultsA, resultA, finish, old, olds, flat, movedH_same, Nat.min_self, loadA, readCells, cellsV, cellsOk, cellOk, S_store, storeA, setCells, get_off, get_off0, set_off, set_off0, e1, S_len0, ht, execL_range, roOk, isFn, h68, gl, c1, c2, hip, htk, hne, hmin, hmq, hmin3, hmin4]
end Go.Abs.T09
/- cells.Cell. -/
namespace Go.Abs.T09
open Go Go.Abs

/-! ### what a valid layout is -/
structure Valid (sizes : List Int) (ts : List Tb) : Prop where
  ok : sizes.all okSize = true
  slen : sizes.length ≤ 4
  len : ts.length ≤ 12
  fits : ∀ k t, ts[k]? = some t → tFits sizes (ts.take k) t = true
  strict : sumB true sizes ts ≤ 128
  merged : sumB false sizes ts ≤ 64

theorem valid_iff {sizes : List Int} {ts : List Tb} : validB sizes ts = true ↔ Valid sizes ts := by
  simp only [validB, List.all_cons, List.all_nil, id, Bool.and_eq_true, decide_eq_true_eq, fitsAll_iff]
  constructor
  · rintro ⟨⟨⟨a, b, c, -⟩, d⟩, e, f⟩
    exact ⟨c, a, b, d, e, f⟩
  · rintro ⟨a, b, c, d, e, f⟩
    exact ⟨⟨⟨b, c, a, trivial⟩, d⟩, e, f⟩

theorem Valid.good {sizes : List Int} {ts : List Tb} (h : Valid sizes ts) {k : Nat} {t : Tb} (e : ts[k]? = some t) : goodCols sizes t.cl = true := tFits_good (h.fits k t e)
theorem Valid.widb {sizes : List Int} {ts : List Tb} (h : Valid sizes ts) {k : Nat} {t : Tb} (e : ts[k]? = some t) : 1 ≤ wid sizes t ∧ wid sizes t ≤ 216 := wid_bound h.ok (h.good e)
theorem Valid.first {sizes : List Int} {ts : List Tb} (h : Valid sizes ts) {k : Nat} {t : Tb} (e : ts[k]? = some t) : t.first = sumB (strictB t) sizes (ts.take k) := by
  have := h.fits k t e
  simp only [tFits, firstOk, Bool.and_eq_true, beq_iff_eq] at this
  exact this.2
theorem Valid.sum_mono {sizes : List Int} {ts : List Tb} (h : Valid sizes ts) (b : Bool) : ∀ (j k : Nat), sumB b sizes (ts.take k) ≤ sumB b sizes (ts.take (k + j))
  | 0, k => Int.le_refl _
  | j + 1, k => by
    have ih := h.sum_mono b j k
    cases e : ts[k + j]? with
    | none =>
      have hle := List.getElem?_eq_none_iff.1 e
      have e1 : ts.take (k + (j + 1)) = ts := List.take_of_length_le (by omega)
      have e2 : ts.take (k + j) = ts := List.take_of_length_le hle
      rw [e2] at ih
      rw [e1]
      exact ih
    | some t =>
      have := h.widb e
      rw [show k + (j + 1) = (k + j) + 1 by omega, sumB_succ e]
      split <;> omega
theorem Valid.sum_le {sizes : List Int} {ts : List Tb} (h : Valid sizes ts) (b : Bool) (k : Nat) : 0 ≤ sumB b sizes (ts.take k) ∧ sumB b sizes (ts.take k) ≤ sumB b sizes ts := by
  constructor
  · have := h.sum_mono b k 0
    simpa [sumB] using this
  · have := h.sum_mono b ts.length k
    rwa [List.take_of_length_le (i := k + ts.length) (by omega)] at this
theorem Valid.sum_all {sizes : List Int} {ts : List Tb} (h : Valid sizes ts) (b : Bool) : 0 ≤ sumB b sizes ts ∧ sumB b sizes ts ≤ 128 := by
  have h1 := (h.sum_le b ts.length).1
  rw [List.take_length] at h1
  have := h.strict
  have := h.merged
  cases b <;> omega
theorem Valid.end_le {sizes : List Int} {ts : List Tb} (h : Valid sizes ts) {k : Nat} {t : Tb} (e : ts[k]? = some t) : 0 ≤ t.first ∧ t.first + wid sizes t ≤ sumB (strictB t) sizes ts := by
  rw [h.first e]
  have h1 := (h.sum_le (strictB t) k).1
  have h2 := (h.sum_le (strictB t) (k + 1)).2
  rw [sumB_succ e] at h2
  simp at h2
  exact ⟨h1, h2⟩

theorem valP_lt {ds t : List Int} (hd : ∀ d ∈ ds, 1 ≤ d) : ∀ i, i ≤ ds.length → (∀ j x d, j < i → t[j]? = some x → ds[j]? = some d → 0 ≤ x ∧ x < d) → i ≤ t.length → 0 ≤ valP ds t i ∧ valP ds t i < prodP ds i
  | 0, _, _, _ => by simp [valP, prodP]
  | i + 1, hi, h, ht => by
    obtain ⟨d, hdi⟩ : ∃ d, ds[i]? = some d := ⟨_, List.getElem?_eq_getElem (by omega)⟩
    obtain ⟨x, hx⟩ : ∃ x, t[i]? = some x := ⟨_, List.getElem?_eq_getElem (by omega)⟩
    have ih := valP_lt hd i (by omega) (fun j x d hj => h j x d (by omega)) (by omega)
    have hxd := h i x d (by omega) hx hdi
    have hd1 := hd d (List.mem_of_getElem? hdi)
    simp only [valP, prodP, hdi, hx, Option.getD_some]
    have a : 0 ≤ valP ds t i * d := Int.mul_nonneg ih.1 (by omega)
    have b : (valP ds t i + 1) * d ≤ prodP ds i * d := Int.mul_le_mul_of_nonneg_right (by omega) (by omega)
    rw [Int.add_mul] at b
    omega

open Classical in
/-- What cells.Cell returns. -/
noncomputable def cellR (sizes : List Int) (ts : List Tb) (table : Int) (tu : List Int) : Int × Int :=
  if validB sizes ts = false then (0, 1) else if table < 0 ∨ (ts.length : Int) ≤ table then (0, 7) else
  match ts[table.toNat]? with
  | none => (0, 7)
  | some t => if InR (dimsOf sizes t.cl) tu then (t.first + valP (dimsOf sizes t.cl) tu tu.length, 0) else (0, 2)

set_option maxHeartbeats 1000000 in
theorem cell_loop {sizes tu : List Int} {sv uv : V} {t : Tb} {H : Heap} (hs : VI sv sizes) (ht : TbOk t) (hu : VI uv tu) (hok : sizes.all okSize = true) (hgc : goodCols sizes t.cl = true) (hlen : tu.length = t.cl.length)
    {st : St} (h1 : st.H = H ++ [.cells t.cells]) (h2 : st.low = H.length) (l0 : lookupE st.vE 0 = sv) (l10 : lookupE st.vE 10 = .ptr H.length 0) (l11 : lookupE st.vE 11 = .int .i64 0) (l36 : lookupE st.vE 36 = uv) (l37 : lookupE st.vE 37 = .int .i64 tu.length) (l38 : lookupE st.vE 38 = .int .i64 0) :
    ∃ x st', execL tab (.loop (rangeBody 39 37 38 69 1 0 F10L0)) st = some (x, st') ∧ st'.H = H ++ [.cells t.cells] ∧ st'.low = H.length ∧
      ((x = .exit 0 ∧ InR (dimsOf sizes t.cl) tu ∧ lookupE st'.vE 10 = .ptr H.length 0 ∧ lookupE st'.vE 11 = .int .i64 (valP (dimsOf sizes t.cl) tu tu.length)) ∨ (x = .ret ∧ ¬ InR (dimsOf sizes t.cl) tu ∧ lookupE st'.vE 8 = .int .i64 0 ∧ lookupE st'.vE 9 = .int .i64 2)) := by
  have hdl : (dimsOf sizes t.cl).length = t.cl.length := by simp [dimsOf]
  have hin := (goodCols_in hgc).2
  have hd := dims_in hok hgc
  have hcb := cols_bound hok hgc
  have hbnd : ∀ i, i ≤ t.cl.length → prodP (dimsOf sizes t.cl) i ≤ 216 := fun i hi => by rw [prodP_take _ _ (by omega)]; exact (hcb i hi).2
  have hco := ht.cols
  have key := range_loop (tab := tab) (b := 39) (n := 37) (i := 38) (t := 69) (blk := 1) (ex := 0) (body := F10L0)
    (I := fun k st => st.H = H ++ [.cells t.cells] ∧ st.low = H.length ∧ lookupE st.vE 0 = sv ∧ lookupE st.vE 10 = .ptr H.length 0 ∧ lookupE st.vE 11 = .int .i64 (valP (dimsOf sizes t.cl) tu k) ∧ lookupE st.vE 36 = uv ∧ lookupE st.vE 38 = .int .i64 k ∧ lookupE st.vE 37 = .int .i64 tu.length ∧
      ∀ j x d, j < k → tu[j]? = some x → (dimsOf sizes t.cl)[j]? = some d → 0 ≤ x ∧ x < d)
    (Q := fun x st' => st'.H = H ++ [.cells t.cells] ∧ st'.low = H.length ∧ ((x = .exit 0 ∧ InR (dimsOf sizes t.cl) tu ∧ lookupE st'.vE 10 = .ptr H.length 0 ∧ lookupE st'.vE 11 = .int .i64 (valP (dimsOf sizes t.cl) tu tu.length)) ∨ (x = .ret ∧ ¬ InR (dimsOf sizes t.cl) tu ∧ lookupE st'.vE 8 = .int .i64 0 ∧ lookupE st'.vE 9 = .int .i64 2)))
    (N := tu.length) hu.lt (by decide) (by decide)
    (fun k st h => ⟨h.2.2.2.2.2.2.1, h.2.2.2.2.2.2.2.1, by rw [h.1, h.2.1]; simp⟩)
    (by
      rintro k st hk ⟨q1, q2, q3, q4, q5, q6, q7, q8, q9⟩
      obtain ⟨x, hx⟩ : ∃ x, tu[k]? = some x := ⟨_, List.getElem?_eq_getElem hk⟩
      obtain ⟨c, hcc⟩ : ∃ c, t.cl[k]? = some c := ⟨_, List.getElem?_eq_getElem (by omega)⟩
      obtain ⟨c0, c1⟩ := hin c (List.mem_of_getElem? hcc)
      obtain ⟨d, hsd⟩ : ∃ d, sizes[c.toNat]? = some d := ⟨_, List.getElem?_eq_getElem (by omega)⟩
      have hdim : (dimsOf sizes t.cl)[k]? = some d := by simp [dimsOf, hcc, hsd]
      have hd1 := hd d (List.mem_of_getElem? hdim)
      have hgx := hu.get hx
      have hgc' := hco.get hcc
      have hgd := hs.get hsd
      have hn0 : min H.length (H.length + 1) = H.length := Nat.min_eq_left (by omega)
      have hv := valP_lt (fun d h => (hd d h).1) k (by omega) q9 (by omega)
      have hp := hbnd k (by omega)
      by_cases hx0 : x < 0
      · refine ⟨.ret, _, by simp [F10L0, callBody, zipE, execL_seq, execL_region, execL_cond, execL_skip, execL_ret, execL_exit, execL_block, execOps, wantedA, S_mv, S_pick, S_bin, S_un, S_call0, S_call1, S_extract, S_nilEq, S_load, S_alloc, Opd.ev, lookupE, lookE_setE, St.put, binA, unA, boolOf, freezeVs, freezeV, freeze1, isP, isPs, resultsA, resultA, finish, old, olds, flat, movedH_same, Nat.min_self, loadA, readCells, cellsV_int, q1, q2, q3, q4, q5, q6, q7, S_index, hu.sl, hs.sl, hco.sl, hgx, hx0, hn0]; rfl, ?_⟩
        simp only [reduceCtorEq, or_self, if_false]
        exact ⟨by simp, by simp, .inr ⟨trivial, fun hR => by have := (hR.2 k x d hx hdim).1; omega, by simp [lookE_setE], by simp [lookE_setE]⟩⟩
      · by_cases hxd : x < d
        · have hxd' : ¬ d ≤ x := by omega
          have hvs : valP (dimsOf sizes t.cl) tu (k + 1) = valP (dimsOf sizes t.cl) tu k * d + x := by simp [valP, hdim, hx]
          have hv2 := valP_lt (fun d h => (hd d h).1) (k + 1) (by omega) (t := tu) (fun j y e hj hy he => by
            rcases Nat.lt_or_ge j k with h | h
            · exact q9 j y e h hy he
            · have : j = k := by omega
              subst this
              rw [hx] at hy; rw [hdim] at he; cases hy; cases he; omega) (by omega)
          have hp2 := hbnd (k + 1) (by omega)
          rw [hvs] at hv2
          have hm0 : 0 ≤ valP (dimsOf sizes t.cl) tu k * d := Int.mul_nonneg hv.1 (by omega)
          have hw1 : IntKind.i64.wrap (valP (dimsOf sizes t.cl) tu k * d) = valP (dimsOf sizes t.cl) tu k * d := by rw [wrap_small] <;> omega
          have hw2 : IntKind.i64.wrap (valP (dimsOf sizes t.cl) tu k * d + x) = valP (dimsOf sizes t.cl) tu k * d + x := by rw [wrap_small] <;> omega
          refine ⟨.normal, _, by simp [F10L0, callBody, zipE, execL_seq, execL_region, execL_cond, execL_skip, execL_ret, execL_exit, execL_block, execOps, wantedA, S_mv, S_pick, S_bin, S_un, S_call0, S_call1, S_extract, S_nilEq, S_load, S_alloc, Opd.ev, lookupE, lookE_setE, St.put, binA, unA, boolOf, freezeVs, freezeV, freeze1, isP, isPs, resultsA, resultA, finish, old, olds, flat, movedH_same, Nat.min_self, loadA, readCells, cellsV_int, q1, q2, q3, q4, q5, q6, q7, S_index, S_fieldAddr, get_off, get_off0, Tb.c2, Tb.e2, Tb.len, hu.sl, hs.sl, hco.sl, hgx, hgc', natOf_nonneg _ c0, hgd, hx0, hxd, hxd', hn0, hw1, hw2]; rfl, ?_⟩
          simp only [true_or, if_true, lookE_setE, q1, q2]
          refine ⟨by simp [q7], by simp, by simp, by simp, by simp [q3], by simp [q4], by simp [hvs], by simp [q6], by simp, by simp [q8], fun j y e hj hy he => ?_⟩
          rcases Nat.lt_or_ge j k with h | h
          · exact q9 j y e h hy he
          · have : j = k := by omega
            subst this
            rw [hx] at hy; rw [hdim] at he; cases hy; cases he; omega
        · have hxd' : d ≤ x := by omega
          refine ⟨.ret, _, by simp [F10L0, callBody, zipE, execL_seq, execL_region, execL_cond, execL_skip, execL_ret, execL_exit, execL_block, execOps, wantedA, S_mv, S_pick, S_bin, S_un, S_call0, S_call1, S_extract, S_nilEq, S_load, S_alloc, Opd.ev, lookupE, lookE_setE, St.put, binA, unA, boolOf, freezeVs, freezeV, freeze1, isP, isPs, resultsA, resultA, finish, old, olds, flat, movedH_same, Nat.min_self, loadA, readCells, cellsV_int, q1, q2, q3, q4, q5, q6, q7, S_index, S_fieldAddr, get_off, get_off0, Tb.c2, Tb.e2, Tb.len, hu.sl, hs.sl, hco.sl, hgx, hgc', natOf_nonneg _ c0, hgd, hx0, hxd, hxd', hn0]; rfl, ?_⟩
          simp only [reduceCtorEq, or_self, if_false]
          exact ⟨by simp, by simp, .inr ⟨trivial, fun hR => hxd (hR.2 k x d hx hdim).2, by simp [lookE_setE], by simp [lookE_setE]⟩⟩)
    (by
      rintro st ⟨q1, q2, q3, q4, q5, q6, q7, q8, q9⟩
      refine ⟨q1, q2, .inl ⟨rfl, ⟨by omega, fun j x d hx hd => ?_⟩, by simp [lookE_setE, q4], by simp [lookE_setE, q5]⟩⟩
      have hj : j < tu.length := by
        rcases Nat.lt_or_ge j tu.length with h | h
        · exact h
        · rw [List.getElem?_eq_none h] at hx; cases hx
      exact q9 j x d hj hx hd)
  exact key tu.length 0 st (by omega) ⟨h1, h2, l0, l10, by simpa [valP] using l11, l36, l38, l37, fun j x d hj => absurd hj (by omega)⟩

set_option maxHeartbeats 2000000 in
theorem cell_s {sizes tu : List Int} {sv tv uv : V} {ts : List Tb} {table : Int} (hs : VI sv sizes) (ht : VT tv ts) (hu : VI uv tu) (H : Heap) :
    Ans (.fn 10 [] []) [sv, tv, .int .i64 table, uv] H (.tup [.int .i64 (cellR sizes ts table tu).1, .int .i64 (cellR sizes ts table tu).2]) := by
  have hv := valid_s hs ht H
  unfold Ans at *
  rw [callL_fn, show tab 10 = some (.code F10) from rfl]
  unfold cellR
  cases hV : validB sizes ts with
  | false =>
    rw [hV] at hv
    simp [F10, callBody, zipE, execL_seq, execL_region, execL_cond, execL_skip, execL_ret, execL_exit, execL_block, execOps, wantedA, S_mv, S_pick, S_bin, S_un, S_call0, S_call1, S_extract, S_nilEq, S_load, S_alloc, Opd.ev, lookupE, setE, St.put, binA, unA, boolOf, freezeVs, freezeV, freeze1, isP, isPs, resultsA, resultA, finish, old, olds, flat, movedH_same, Nat.min_self, loadA, readCells, cellsV_int, slE_isP hs.sl, slE_isP ht.sl, hv]
  | true =>
    rw [hV] at hv
    have hVd := valid_iff.1 hV
    by_cases h0 : table < 0
    · simp [F10, callBody, zipE, execL_seq, execL_region, execL_cond, execL_skip, execL_ret, execL_exit, execL_block, execOps, wantedA, S_mv, S_pick, S_bin, S_un, S_call0, S_call1, S_extract, S_nilEq, S_load, S_alloc, Opd.ev, lookupE, setE, St.put, binA, unA, boolOf, freezeVs, freezeV, freeze1, isP, isPs, resultsA, resultA, finish, old, olds, flat, movedH_same, Nat.min_self, loadA, readCells, cellsV_int, slE_isP hs.sl, slE_isP ht.sl, hv, h0]
    · by_cases h1 : (ts.length : Int) ≤ table
      · simp [F10, callBody, zipE, execL_seq, execL_region, execL_cond, execL_skip, execL_ret, execL_exit, execL_block, execOps, wantedA, S_mv, S_pick, S_bin, S_un, S_call0, S_call1, S_extract, S_nilEq, S_load, S_alloc, Opd.ev, lookupE, setE, St.put, binA, unA, boolOf, freezeVs, freezeV, freeze1, isP, isPs, resultsA, resultA, finish, old, olds, flat, movedH_same, Nat.min_self, loadA, readCells, cellsV_int, slE_isP hs.sl, slE_isP ht.sl, hv, h0, h1, S_len 6, ht.sl, ht.len]
      · obtain ⟨t, het⟩ : ∃ t, ts[table.toNat]? = some t := ⟨_, List.getElem?_eq_getElem (by omega)⟩
        have hto := ht.ok t (List.mem_of_getElem? het)
        have hg := ht.get het
        have hset : setCells [V.str [], .int .i64 0, .nil0, .int .i64 0, .int .i64 0, .int .i64 0] 0 t.cells = t.cells := rfl
        have hnn : 0 ≤ table := by omega
        rw [het]
        by_cases hl : tu.length = t.cl.length
        · have hlb : ((tu.length : Int) != (t.cl.length : Int)) = false := by simp [hl]
          obtain ⟨x, st', r1, r2, r3, r4⟩ := cell_loop (H := H) hs hto hu hVd.ok (hVd.good het) hl
            (st := { tE := [], vE := [(0, sv), (1, tv), (2, .int .i64 table), (3, uv), (8, .int .i64 0), (9, .int .i64 0), (17, .bool false), (25, .bool false), (10, .ptr H.length 0), (11, .int .i64 0), (35, .bool false), (36, uv), (37, .int .i64 tu.length), (38, .int .i64 0)], H := H ++ [.cells t.cells], low := H.length }) rfl rfl rfl rfl rfl rfl rfl rfl
          rcases r4 with ⟨rfl, r4, r5, r6⟩ | ⟨rfl, r4, r5, r6⟩
          · have hb := valP_lt (fun d h => (dims_in hVd.ok (hVd.good het) d h).1) (dimsOf sizes t.cl).length (Nat.le_refl _) (fun j x d _ hx hd => r4.2 j x d hx hd) (by rw [r4.1]; exact Nat.le_refl _)
            rw [prodP_take _ _ (Nat.le_refl _), List.take_length, ← r4.1] at hb
            have hwd := hVd.widb het
            have hfi := hVd.end_le het
            have hsa := hVd.sum_all (strictB t)
            have hw : IntKind.i64.wrap (t.first + valP (dimsOf sizes t.cl) tu tu.length) = t.first + valP (dimsOf sizes t.cl) tu tu.length := by
              unfold wid at hwd hfi; rw [wrap_small] <;> omega
            simp [F10, callBody, zipE, execL_seq, execL_region, execL_cond, execL_skip, execL_ret, execL_exit, execL_block, execOps, wantedA, S_mv, S_pick, S_bin, S_un, S_call0, S_call1, S_extract, S_nilEq, S_load, S_alloc, Opd.ev, lookupE, setE, St.put, binA, unA, boolOf, freezeVs, freezeV, freeze1, isP, isPs, resultsA, resultA, finish, old, olds, flat, movedH_same, Nat.min_self, loadA, readCells, cellsV_int, slE_isP hs.sl, slE_isP ht.sl, hv, h0, h1, S_len 6, S_len 1, hu.sl, hu.len, hto.cols.sl, hto.cols.len, ht.sl, ht.len, S_index, natOf_nonneg _ hnn, hg, Tb.v, cellsV_agg, Tb.len, Tb.t6, Tb.c2, Tb.e2, Tb.c5, Tb.e5, S_fieldAddr, S_store, storeA, hto.cells, hset, get_off, get_off0, set_off, set_off0, hlb, r1, r2, r3, r4, r5, r6, hw, lookE_setE]
          · simp [F10, callBody, zipE, execL_seq, execL_region, execL_cond, execL_skip, execL_ret, execL_exit, execL_block, execOps, wantedA, S_mv, S_pick, S_bin, S_un, S_call0, S_call1, S_extract, S_nilEq, S_load, S_alloc, Opd.ev, lookupE, setE, St.put, binA, unA, boolOf, freezeVs, freezeV, freeze1, isP, isPs, resultsA, resultA, finish, old, olds, flat, movedH_same, Nat.min_self, loadA, readCells, cellsV_int, slE_isP hs.sl, slE_isP ht.sl, hv, h0, h1, S_len 6, S_len 1, hu.sl, hu.len, hto.cols.sl, hto.cols.len, ht.sl, ht.len, S_index, natOf_nonneg _ hnn, hg, Tb.v, cellsV_agg, Tb.len, Tb.t6, Tb.c2, Tb.e2, S_fieldAddr, S_store, storeA, hto.cells, hset, get_off, get_off0, set_off, set_off0, hlb, r1, r2, r3, r4, r5, r6, lookE_setE]
        · have hlb : ((tu.length : Int) != (t.cl.length : Int)) = true := by simp; omega
          have hnR : ¬ InR (dimsOf sizes t.cl) tu := fun hR => hl (by rw [hR.1]; simp [dimsOf])
          simp [F10, callBody, zipE, execL_seq, execL_region, execL_cond, execL_skip, execL_ret, execL_exit, execL_block, execOps, wantedA, S_mv, S_pick, S_bin, S_un, S_call0, S_call1, S_extract, S_nilEq, S_load, S_alloc, Opd.ev, lookupE, setE, St.put, binA, unA, boolOf, freezeVs, freezeV, freeze1, isP, isPs, resultsA, resultA, finish, old, olds, flat, movedH_same, Nat.min_self, loadA, readCells, cellsV_int, slE_isP hs.sl, slE_isP ht.sl, hv, h0, h1, S_len 6, S_len 1, hu.sl, hu.len, hto.cols.sl, hto.cols.len, ht.sl, ht.len, S_index, natOf_nonneg _ hnn, hg, Tb.v, cellsV_agg, Tb.len, Tb.t6, Tb.c2, Tb.e2, S_fieldAddr, S_store, storeA, hto.cells, hset, get_off, get_off0, set_off, set_off0, hlb, hnR]
end Go.Abs.T09
/- cells.Tuple. -/
namespace Go.Abs.T09
open Go Go.Abs

/-! ### digits -/
def dg (ds : List Int) : Nat → Int → List Int → List Int
  | 0, _, t => t
  | i + 1, k, t => dg ds i (k / (ds[i]?).getD 0) (t.set i (k % (ds[i]?).getD 0))
def tupleOf (ds : List Int) (k : Int) : List Int := dg ds ds.length k (List.replicate ds.length 0)

theorem dg_length (ds : List Int) : ∀ (i : Nat) (k : Int) (t : List Int), (dg ds i k t).length = t.length
  | 0, _, t => rfl
  | i + 1, k, t => by simp only [dg]; rw [dg_length]; simp
theorem dg_above (ds : List Int) : ∀ (i : Nat) (k : Int) (t : List Int) (m : Nat), i ≤ m → (dg ds i k t)[m]? = t[m]?
  | 0, _, _, _, _ => rfl
  | i + 1, k, t, m, h => by simp only [dg]; rw [dg_above ds i _ _ m (by omega), List.getElem?_set_ne (by omega)]
theorem dg_val {ds : List Int} (hd : ∀ d ∈ ds, 1 ≤ d) : ∀ (i : Nat) (k : Int) (t : List Int), i ≤ ds.length → i ≤ t.length → 0 ≤ k → k < prodP ds i → valP ds (dg ds i k t) i = k ∧ ∀ j x d, j < i → (dg ds i k t)[j]? = some x → ds[j]? = some d → 0 ≤ x ∧ x < d
  | 0, k, t, _, _, h0, h1 => by simp only [prodP] at h1; simp only [valP]; exact ⟨by omega, fun j x d hj => absurd hj (by omega)⟩
  | i + 1, k, t, hi, ht, h0, h1 => by
    obtain ⟨d, hdi⟩ : ∃ d, ds[i]? = some d := ⟨_, List.getElem?_eq_getElem (by omega)⟩
    have hd1 := hd d (List.mem_of_getElem? hdi)
    have hlt : k / d < prodP ds i := by
      simp only [prodP, hdi, Option.getD_some] at h1
      exact Int.ediv_lt_of_lt_mul (by omega) h1
    have ih := dg_val hd i (k / d) (t.set i (k % d)) (by omega) (by simp; omega) (Int.ediv_nonneg h0 (by omega)) hlt
    have hget : (dg ds (i + 1) k t)[i]? = some (k % d) := by
      simp only [dg, hdi, Option.getD_some]
      rw [dg_above ds i _ _ i (Nat.le_refl _), List.getElem?_set_self (by omega)]
    have hdg : dg ds (i + 1) k t = dg ds i (k / d) (t.set i (k % d)) := by simp only [dg, hdi, Option.getD_some]
    refine ⟨?_, fun j x e hj hx he => ?_⟩
    · simp only [valP, hget, hdi, Option.getD_some]
      rw [hdg, ih.1, Int.mul_comm]
      exact Int.mul_ediv_add_emod k d
    · rcases Nat.lt_or_ge j i with h | h
      · rw [hdg] at hx; exact ih.2 j x e h hx he
      · have : j = i := by omega
        subst this
        rw [hget] at hx; rw [hdi] at he; cases hx; cases he
        exact ⟨Int.emod_nonneg _ (by omega), Int.emod_lt_of_pos _ (by omega)⟩

theorem tupleOf_spec {ds : List Int} (hd : ∀ d ∈ ds, 1 ≤ d) {k : Int} (h0 : 0 ≤ k) (h1 : k < prodI ds) : InR ds (tupleOf ds k) ∧ valP ds (tupleOf ds k) (tupleOf ds k).length = k ∧ (tupleOf ds k).length = ds.length := by
  have hp : prodP ds ds.length = prodI ds := by rw [prodP_take ds _ (Nat.le_refl _), List.take_length]
  have hl : (tupleOf ds k).length = ds.length := by unfold tupleOf; rw [dg_length]; simp
  have h := dg_val hd ds.length k (List.replicate ds.length 0) (Nat.le_refl _) (by simp) h0 (by omega)
  refine ⟨⟨hl, fun j x d hx he => ?_⟩, by rw [hl]; exact h.1, hl⟩
  have hj : j < ds.length := by
    rcases Nat.lt_or_ge j ds.length with h | h
    · exact h
    · rw [List.getElem?_eq_none h] at he; cases he
  exact h.2 j x d hj hx he

def tupV (l : List Int) : V := if l = [] then .emp else .list 1 (l.map (.int .i64))
theorem tupV_VI {l : List Int} (h : l.length < 4611686018427387904) : VI (tupV l) l := by
  unfold tupV
  split
  · rename_i e; subst e; exact ⟨rfl, rfl, h⟩
  · exact ⟨rfl, rfl, h⟩

def hit (sizes : List Int) (strict : Bool) (cell : Int) (t : Tb) : Bool := strictB t == strict && decide (0 ≤ cell - t.first) && decide (cell - t.first < wid sizes t)

/-- What cells.Tuple returns. -/
def tupleR (sizes : List Int) (ts : List Tb) (strict : Bool) (cell : Int) : V :=
  if (!validB sizes ts || decide (cell < 0)) = true then .tup [.int .i64 0, .nil0, .bool false] else
  match ts.findIdx? (hit sizes strict cell) with
  | none => .tup [.int .i64 0, .nil0, .bool false]
  | some i => match ts[i]? with
    | some t => .tup [.int .i64 i, tupV (tupleOf (dimsOf sizes t.cl) (cell - t.first)), .bool true]
    | none => .undef

def F12Pa : ACode := .region [⟨some (29, false), .mv (.var 27), none⟩, ⟨some (30, false), .indexAddr 6 (.var 25) (.var 27), none⟩, ⟨some (31, false), .load (some 6) (.tmp 30), none⟩, ⟨some (12, true), .alloc [.str [], .int .i64 0, .nil0, .int .i64 0, .int .i64 0, .int .i64 0], none⟩, ⟨some (11, true), .mv (.tmp 29), none⟩, ⟨none, .store 6 (.var 12) (.tmp 31), none⟩] none
def F12Pb : ACode := .region [⟨some (32, false), .mv (.var 3), none⟩, ⟨some (33, false), .fieldAddr 5 (.var 12), none⟩, ⟨some (34, false), .load none (.tmp 33), none⟩, ⟨some (35, false), .bin .sub (.tmp 32) (.tmp 34), none⟩, ⟨some (13, true), .mv (.tmp 35), none⟩] none
def F12Pc : ACode := .seq (.region [⟨some (36, false), .load (some 6) (.var 12), none⟩, ⟨some (37, false), .call false (.func 33) [(.tmp 36)], none⟩, ⟨some (38, false), .mv (.var 2), none⟩, ⟨some (39, false), .nilEq 4 true (.tmp 37) (.tmp 38), none⟩, ⟨some (40, false), .mv (.tmp 39), none⟩, ⟨some (41, false), .mv (.var 13), some ((.tmp 40), false)⟩, ⟨some (42, false), .bin .lss (.tmp 41) (.const (.int .i64 0)), some ((.tmp 40), false)⟩, ⟨some (43, false), .pick (.tmp 40) (.const (.bool true)) (.tmp 42), none⟩, ⟨some (44, false), .mv (.tmp 43), none⟩, ⟨some (45, false), .mv (.var 13), some ((.tmp 44), false)⟩, ⟨some (46, false), .mv (.var 0), some ((.tmp 44), false)⟩, ⟨some (47, false), .fieldAddr 2 (.var 12), some ((.tmp 44), false)⟩, ⟨some (48, false), .load none (.tmp 47), some ((.tmp 44), false)⟩, ⟨some (49, false), .call false (.func 34) [(.tmp 46), (.tmp 48)], some ((.tmp 44), false)⟩, ⟨some (50, false), .bin .geq (.tmp 45) (.tmp 49), some ((.tmp 44), false)⟩, ⟨some (51, true), .pick (.tmp 44) (.const (.bool true)) (.tmp 50), none⟩] none) (.cond (.var 51) (.exit 1) (.skip))
def F12Pd : ACode := .region [⟨some (52, false), .fieldAddr 2 (.var 12), none⟩, ⟨some (53, false), .load none (.tmp 52), none⟩, ⟨some (54, false), .len 1 (.tmp 53), none⟩, ⟨some (55, false), .mkSlice 1 [.int .i64 0] 8 (.tmp 54) (.tmp 54), none⟩, ⟨some (14, true), .mv (.tmp 55), none⟩] none
def F12Pe : ACode := .seq (.region [⟨some (56, false), .mv (.var 14), none⟩, ⟨some (57, false), .len 1 (.tmp 56), none⟩, ⟨some (58, false), .bin .sub (.tmp 57) (.const (.int .i64 1)), none⟩, ⟨some (15, true), .mv (.tmp 58), none⟩] none) (.block 2 (.loop F12L0))
def F12Pf : ACode := .region [⟨some (80, false), .mv (.var 11), none⟩, ⟨some (81, false), .mv (.var 14), none⟩, ⟨some (8, true), .mv (.tmp 80), none⟩, ⟨some (9, true), .mv (.tmp 81), none⟩, ⟨some (10, true), .mv (.const (.bool true)), none⟩] none
def F12Pg : ACode := .ret
theorem F12L1_parts : F12L1 = .seq F12Pa (.seq F12Pb (.seq F12Pc (.seq F12Pd (.seq F12Pe (.seq F12Pf (F12Pg)))))) := rfl

def keepT (e e' : Env) : Prop := ∀ s, s ≠ 13 → s ≠ 15 → s ≠ 16 → s ≠ 60 → lookupE e' s = lookupE e s

set_option maxHeartbeats 1000000 in
theorem dig_loop {sizes : List Int} {sv : V} {t : Tb} {p q m0 n : Nat} (hs : VI sv sizes) (ht : TbOk t) (hok : sizes.all okSize = true) (hgc : goodCols sizes t.cl = true) (hn : t.cl.length = n) (hpq : p ≠ q) (hmq : m0 ≤ q) :
    ∀ (i : Nat) (k : Int) (tu : List Int) (st : St), tu.length = n → i ≤ n → 0 ≤ k → k ≤ 1000000 → st.H[q]? = some (rowI tu) → st.H[p]? = some (.cells t.cells) → m0 ≤ st.low → st.low ≤ st.H.length →
      lookupE st.vE 0 = sv → lookupE st.vE 12 = .ptr p 0 → lookupE st.vE 14 = .sref q 1 0 n n → lookupE st.vE 15 = .int .i64 ((i : Int) - 1) → lookupE st.vE 13 = .int .i64 k →
      ∃ st', execL tab (.loop F12L0) st = some (.exit 2, st') ∧ st'.H[q]? = some (rowI (dg (dimsOf sizes t.cl) i k tu)) ∧ st'.H.length = st.H.length ∧ m0 ≤ st'.low ∧ keepT st.vE st'.vE
  | 0, k, tu, st, htu, hi, hk0, hk1, hq, hp, hl1, hl2, l0, l12, l14, l15, l13 => by
    rw [execL_loop]
    refine ⟨_, by simp [F12L0, callBody, zipE, execL_seq, execL_region, execL_cond, execL_skip, execL_ret, execL_exit, execL_block, execOps, wantedA, S_mv, S_pick, S_bin, S_un, S_call0, S_call1, S_extract, S_nilEq, S_load, S_alloc, Opd.ev, lookupE, lookE_setE, St.put, binA, unA, boolOf, freezeVs, freezeV, freeze1, isP, isPs, resultsA, resultA, finish, old, olds, flat, movedH_same, Nat.min_self, loadA, readCells, cellsV_int, l15]; rfl, ?_⟩
    refine ⟨by simpa [dg] using hq, by simp, by simp; omega, fun s a b c d => by simp [lookE_setE, d]⟩
  | i + 1, k, tu, st, htu, hi, hk0, hk1, hq, hp, hl1, hl2, l0, l12, l14, l15, l13 => by
    have hit : i < tu.length := by omega
    obtain ⟨c, hcc⟩ : ∃ c, t.cl[i]? = some c := ⟨_, List.getElem?_eq_getElem (by omega)⟩
    obtain ⟨c0, c1⟩ := (goodCols_in hgc).2 c (List.mem_of_getElem? hcc)
    obtain ⟨d, hsd⟩ : ∃ d, sizes[c.toNat]? = some d := ⟨_, List.getElem?_eq_getElem (by omega)⟩
    have hdim : (dimsOf sizes t.cl)[i]? = some d := by simp [dimsOf, hcc, hsd]
    have hd1 := dims_in hok hgc d (List.mem_of_getElem? hdim)
    have hgc' := ht.cols.get hcc
    have hgd := hs.get hsd
    have e15 : ((i + 1 : Nat) : Int) - 1 = (i : Int) := by omega
    rw [e15] at l15
    have hcl := ht.cols.lt
    have hw2 : IntKind.i64.wrap ((i : Int) - 1) = (i : Int) - 1 := by rw [wrap_small] <;> omega
    have hge : (0 : Int) ≤ (i : Int) := by omega
    have hin' : i < n := by omega
    have hd0 : ¬ d = 0 := by omega
    have hq1 : k.tdiv d = k / d := Int.tdiv_eq_ediv_of_nonneg hk0
    have hq2 : k.tmod d = k % d := Int.tmod_eq_emod_of_nonneg hk0
    have hkd : 0 ≤ k / d ∧ k / d ≤ k := ⟨Int.ediv_nonneg hk0 (by omega), Int.ediv_le_self _ hk0⟩
    have hw3 : IntKind.i64.wrap (k / d) = k / d := by rw [wrap_small] <;> omega
    have hqE : ∀ h : q < st.H.length, st.H[q]'h = rowI tu := fun h => by rw [List.getElem?_eq_getElem h] at hq; exact Option.some.inj hq
    have hpE : ∀ h : p < st.H.length, st.H[p]'h = .cells t.cells := fun h => by rw [List.getElem?_eq_getElem h] at hp; exact Option.some.inj hp
    have hqH : q < st.H.length := by
      rcases Nat.lt_or_ge q st.H.length with h | h
      · exact h
      · rw [List.getElem?_eq_none h] at hq; cases hq
    have hlow : min st.low st.H.length = st.low := Nat.min_eq_left hl2
    have hstep : ∃ st1, execL tab F12L0 st = some (.normal, st1) ∧ st1.H = st.H.set q (rowI (tu.set i (k % d))) ∧ m0 ≤ st1.low ∧ st1.low ≤ st1.H.length ∧ lookupE st1.vE 15 = .int .i64 ((i : Int) - 1) ∧ lookupE st1.vE 13 = .int .i64 (k / d) ∧ keepT st.vE st1.vE := by
      refine ⟨_, by simp [F12L0, callBody, zipE, execL_seq, execL_region, execL_cond, execL_skip, execL_ret, execL_exit, execL_block, execOps, wantedA, S_mv, S_pick, S_bin, S_un, S_call0, S_call1, S_extract, S_nilEq, S_load, S_alloc, Opd.ev, lookupE, lookE_setE, St.put, binA, unA, boolOf, freezeVs, freezeV, freeze1, isP, isPs, resultsA, resultA, finish, old, olds, flat, movedH_same, Nat.min_self, loadA, readCells, cellsV_int, l0, l12, l13, l14, l15, hp, hpE, hq, hqE, hqH, S_fieldAddr, S_index, S_indexR, isRow, rowI, ht.cols.sl, hs.sl, hgc', hgd, Tb.c2, Tb.e2, Tb.len, natOf_nonneg _ c0, hd0, hq1, hq2, hw3, S_store, storeA, putElem, plainCells, plainCell, htu, hin', hit, hw2, inOrder, movedH, touches, hlow, show Nat.testBit 287 8 = true by decide]; rfl, ?_⟩
      refine ⟨by simp [rowI, List.map_set], by simp; omega, by simp; omega, by simp [lookE_setE], by simp [lookE_setE], fun s a b c d => by simp [lookE_setE, a, b, c, d]⟩
    obtain ⟨st1, q1, q2, q3, q4, q5, q6, q7⟩ := hstep
    have hq' : st1.H[q]? = some (rowI (tu.set i (k % d))) := by rw [q2, List.getElem?_set_self hqH]
    have hp' : st1.H[p]? = some (.cells t.cells) := by rw [q2, List.getElem?_set_ne (fun e => hpq e.symm)]; exact hp
    obtain ⟨st', r1, r2, r3, r4, r5⟩ := dig_loop hs ht hok hgc hn hpq hmq i (k / d) (tu.set i (k % d)) st1 (by simp [htu]) (by omega) hkd.1 (by omega) hq' hp' q3 q4
      (by rw [q7 0 (by decide) (by decide) (by decide) (by decide)]; exact l0) (by rw [q7 12 (by decide) (by decide) (by decide) (by decide)]; exact l12) (by rw [q7 14 (by decide) (by decide) (by decide) (by decide)]; exact l14) q5 q6
    refine ⟨st', by rw [execL_loop, q1]; exact r1, ?_, by rw [r3, q2]; simp, r4, fun s a b c d => (r5 s a b c d).trans (q7 s a b c d)⟩
    rw [r2]
    simp only [dg, hdim, Option.getD_some]

def keepL (e e' : Env) : Prop := ∀ s, s ∈ [0, 1, 2, 3, 25, 26, 27] → lookupE e' s = lookupE e s

theorem tu_a {tv : V} {k n : Nat} {t : Tb} {H : Heap} {st : St} (hsl : slE 6 tv = true) (hg : (el tv)[k]? = some t.v) (ht : TbOk t) (h1 : st.H = H) (hlow : st.low = n) (hn : n ≤ H.length) (l25 : lookupE st.vE 25 = tv) (l27 : lookupE st.vE 27 = .int .i64 k) :
    ∃ st', execL tab F12Pa st = some (.normal, st') ∧ st'.H = H ++ [.cells t.cells] ∧ st'.low = n ∧ lookupE st'.vE 12 = .ptr H.length 0 ∧ lookupE st'.vE 11 = .int .i64 k ∧ keepL st.vE st'.vE := by
  have hco := ht.cells
  have hset : setCells [V.str [], .int .i64 0, .nil0, .int .i64 0, .int .i64 0, .int .i64 0] 0 t.cells = t.cells := rfl
  refine ⟨_, by simp [F12Pa, callBody, zipE, execL_seq, execL_region, execL_cond, execL_skip, execL_ret, execL_exit, execL_block, execOps, wantedA, S_mv, S_pick, S_bin, S_un, S_call0, S_call1, S_extract, S_nilEq, S_load, S_alloc, Opd.ev, lookupE, lookE_setE, St.put, binA, unA, boolOf, freezeVs, freezeV, freeze1, isP, isPs, resultsA, resultA, finish, old, olds, flat, movedH_same, Nat.min_self, loadA, readCells, cellsV_int, l25, l27, S_index, hsl, hg, Tb.v, cellsV_agg, Tb.len, Tb.t6, S_store, storeA, hco, hset, h1, hlow]; rfl, ?_⟩
  exact ⟨by simp, by first | (simp; done) | (simp; omega), by simp [lookE_setE], by simp [lookE_setE, l27], fun s hs => by
    have : s ≠ 11 ∧ s ≠ 12 := by constructor <;> (rintro rfl; simp at hs)
    simp [lookE_setE, this.1, this.2]⟩
theorem tu_b {p n : Nat} {cell : Int} {t : Tb} {H : Heap} {st : St} (h1 : st.H = H) (hlow : st.low = n) (hn : n ≤ H.length) (hp : H[p]? = some (.cells t.cells)) (l3 : lookupE st.vE 3 = .int .i64 cell) (l12 : lookupE st.vE 12 = .ptr p 0) (hc : 0 ≤ cell ∧ cell < 9223372036854775808) (hf : 0 ≤ t.first ∧ t.first ≤ 1000) :
    ∃ st', execL tab F12Pb st = some (.normal, st') ∧ st'.H = H ∧ st'.low = n ∧ lookupE st'.vE 13 = .int .i64 (cell - t.first) ∧ lookupE st'.vE 11 = lookupE st.vE 11 ∧ lookupE st'.vE 12 = .ptr p 0 ∧ keepL st.vE st'.vE := by
  have n0 : min n H.length = n := Nat.min_eq_left hn
  have hpE : ∀ h : p < H.length, H[p]'h = .cells t.cells := fun h => by rw [List.getElem?_eq_getElem h] at hp; exact Option.some.inj hp
  have hw : IntKind.i64.wrap (cell - t.first) = cell - t.first := by rw [wrap_small] <;> omega
  refine ⟨_, by simp [F12Pb, callBody, zipE, execL_seq, execL_region, execL_cond, execL_skip, execL_ret, execL_exit, execL_block, execOps, wantedA, S_mv, S_pick, S_bin, S_un, S_call0, S_call1, S_extract, S_nilEq, S_load, S_alloc, Opd.ev, lookupE, lookE_setE, St.put, binA, unA, boolOf, freezeVs, freezeV, freeze1, isP, isPs, resultsA, resultA, finish, old, olds, flat, movedH_same, Nat.min_self, loadA, readCells, cellsV_int, l3, l12, hp, hpE, h1, hlow, S_fieldAddr, Tb.c5, Tb.e5, Tb.len, hw, n0]; rfl, rfl, ?_⟩
  exact ⟨by first | (simp; done) | (simp; omega), by simp [lookE_setE], by simp [lookE_setE], by simp [lookE_setE, l12], fun s hs => by
    have : s ≠ 13 := by rintro rfl; simp at hs
    simp [lookE_setE, this]⟩
theorem tu_c {p n : Nat} {cell : Int} {strict : Bool} {sizes : List Int} {sv : V} {t : Tb} {H : Heap} {st : St} (hs : VI sv sizes) (ht : TbOk t) (hok : sizes.all okSize = true) (hgc : goodCols sizes t.cl = true) (h1 : st.H = H) (hlow : st.low = n) (hn : n ≤ H.length) (hp : H[p]? = some (.cells t.cells))
    (l0 : lookupE st.vE 0 = sv) (l2 : lookupE st.vE 2 = .bool strict) (l12 : lookupE st.vE 12 = .ptr p 0) (l13 : lookupE st.vE 13 = .int .i64 (cell - t.first)) :
    ∃ st', execL tab F12Pc st = some (if hit sizes strict cell t then .normal else .exit 1, st') ∧ st'.H = H ∧ st'.low = n ∧ lookupE st'.vE 11 = lookupE st.vE 11 ∧ lookupE st'.vE 12 = .ptr p 0 ∧ lookupE st'.vE 13 = .int .i64 (cell - t.first) ∧ keepL st.vE st'.vE := by
  have n0 : min n H.length = n := Nat.min_eq_left hn
  have hpE : ∀ h : p < H.length, H[p]'h = .cells t.cells := fun h => by rw [List.getElem?_eq_getElem h] at hp; exact Option.some.inj hp
  have c1 : callL tab (.fn 33 [] []) [.agg t.cells] H = some (.bool (strictB t), H, H.length) := isStrict_s ht H
  have c2 := wid_s (H := H) hs ht hok hgc
  unfold Ans at c2
  have fin : ∀ x (st' : St), st'.H = H → st'.low = n → (∀ s, s ≠ 51 → lookupE st'.vE s = lookupE st.vE s) → execL tab F12Pc st = some (x, st') → x = (if hit sizes strict cell t then .normal else .exit 1) →
      ∃ st', execL tab F12Pc st = some (if hit sizes strict cell t then .normal else .exit 1, st') ∧ st'.H = H ∧ st'.low = n ∧ lookupE st'.vE 11 = lookupE st.vE 11 ∧ lookupE st'.vE 12 = .ptr p 0 ∧ lookupE st'.vE 13 = .int .i64 (cell - t.first) ∧ keepL st.vE st'.vE := fun x st' a b c d e => by
    subst e
    refine ⟨st', d, a, b, c 11 (by decide), by rw [c 12 (by decide)]; exact l12, by rw [c 13 (by decide)]; exact l13, fun s hs => c s (by rintro rfl; simp at hs)⟩
  cases hb : (strictB t == strict) with
  | false =>
    refine fin (.exit 1) _ ?_ ?_ ?_ (by simp [F12Pc, callBody, zipE, execL_seq, execL_region, execL_cond, execL_skip, execL_ret, execL_exit, execL_block, execOps, wantedA, S_mv, S_pick, S_bin, S_un, S_call0, S_call1, S_extract, S_nilEq, S_load, S_alloc, Opd.ev, lookupE, lookE_setE, St.put, binA, unA, boolOf, freezeVs, freezeV, freeze1, isP, isPs, resultsA, resultA, finish, old, olds, flat, movedH_same, Nat.min_self, loadA, readCells, cellsV_int, l0, l2, l12, l13, hp, hpE, h1, hlow, S_fieldAddr, Tb.t6, Tb.len, ht.isP, c1, nilEqA, hb, n0]; rfl) (by simp [hit, hb])
    · rfl
    · first | (simp; done) | (simp; omega)
    · intro s hs; simp [lookE_setE, hs]
  | true =>
    by_cases h0 : cell - t.first < 0
    · have h0' : ¬ 0 ≤ cell - t.first := by omega
      refine fin (.exit 1) _ ?_ ?_ ?_ (by simp [F12Pc, callBody, zipE, execL_seq, execL_region, execL_cond, execL_skip, execL_ret, execL_exit, execL_block, execOps, wantedA, S_mv, S_pick, S_bin, S_un, S_call0, S_call1, S_extract, S_nilEq, S_load, S_alloc, Opd.ev, lookupE, lookE_setE, St.put, binA, unA, boolOf, freezeVs, freezeV, freeze1, isP, isPs, resultsA, resultA, finish, old, olds, flat, movedH_same, Nat.min_self, loadA, readCells, cellsV_int, l0, l2, l12, l13, hp, hpE, h1, hlow, S_fieldAddr, Tb.t6, Tb.len, ht.isP, c1, nilEqA, hb, h0, n0]; rfl) (by simp only [hit, hb, h0', decide_false, Bool.and_false, Bool.false_and]; rfl)
      · rfl
      · first | (simp; done) | (simp; omega)
      · intro s hs; simp [lookE_setE, hs]
    · have h0' : 0 ≤ cell - t.first := by omega
      by_cases h3 : wid sizes t ≤ cell - t.first
      · have h3' : ¬ cell - t.first < wid sizes t := by omega
        refine fin (.exit 1) _ ?_ ?_ ?_ (by simp [F12Pc, callBody, zipE, execL_seq, execL_region, execL_cond, execL_skip, execL_ret, execL_exit, execL_block, execOps, wantedA, S_mv, S_pick, S_bin, S_un, S_call0, S_call1, S_extract, S_nilEq, S_load, S_alloc, Opd.ev, lookupE, lookE_setE, St.put, binA, unA, boolOf, freezeVs, freezeV, freeze1, isP, isPs, resultsA, resultA, finish, old, olds, flat, movedH_same, Nat.min_self, loadA, readCells, cellsV_int, l0, l2, l12, l13, hp, hpE, h1, hlow, S_fieldAddr, Tb.t6, Tb.len, Tb.c2, Tb.e2, ht.isP, slE_isP hs.sl, slE_isP ht.cols.sl, c1, c2, nilEqA, hb, h0, h3, n0]; rfl) (by simp only [hit, hb, h0', h3', decide_false, Bool.and_false]; rfl)
        · rfl
        · first | (simp; done) | (simp; omega)
        · intro s hs; simp [lookE_setE, hs]
      · have h3' : cell - t.first < wid sizes t := by omega
        refine fin .normal _ ?_ ?_ ?_ (by simp [F12Pc, callBody, zipE, execL_seq, execL_region, execL_cond, execL_skip, execL_ret, execL_exit, execL_block, execOps, wantedA, S_mv, S_pick, S_bin, S_un, S_call0, S_call1, S_extract, S_nilEq, S_load, S_alloc, Opd.ev, lookupE, lookE_setE, St.put, binA, unA, boolOf, freezeVs, freezeV, freeze1, isP, isPs, resultsA, resultA, finish, old, olds, flat, movedH_same, Nat.min_self, loadA, readCells, cellsV_int, l0, l2, l12, l13, hp, hpE, h1, hlow, S_fieldAddr, Tb.t6, Tb.len, Tb.c2, Tb.e2, ht.isP, slE_isP hs.sl, slE_isP ht.cols.sl, c1, c2, nilEqA, hb, h0, h3, n0]; rfl) (by simp only [hit, hb, h0', h3', decide_true, Bool.and_true, if_true])
        · rfl
        · first | (simp; done) | (simp; omega)
        · intro s hs; simp [lookE_setE, hs]
end Go.Abs.T09
/- cells.Tuple, whole. -/
namespace Go.Abs.T09
open Go Go.Abs

theorem keepL.trans {a b c : Env} (h1 : keepL a b) (h2 : keepL b c) : keepL a c := fun s hs => (h2 s hs).trans (h1 s hs)

/-- The row that is handed back. -/
def RowAt (n0 : Nat) (H : Heap) (v : V) (l : List Int) : Prop := (l = [] ∧ v = .emp) ∨ (l ≠ [] ∧ ∃ q, n0 ≤ q ∧ v = .sref q 1 0 l.length l.length ∧ H[q]? = some (rowI l))

set_option maxHeartbeats 1000000 in
theorem tu_found {sizes : List Int} {sv : V} {t : Tb} {p n0 idx : Nat} {k : Int} {H : Heap} {st : St} (hs : VI sv sizes) (ht : TbOk t) (hok : sizes.all okSize = true) (hgc : goodCols sizes t.cl = true) (h1 : st.H = H) (hlow : st.low = n0) (hn : n0 ≤ H.length) (hp : H[p]? = some (.cells t.cells))
    (hk : 0 ≤ k ∧ k ≤ 1000000) (l0 : lookupE st.vE 0 = sv) (l11 : lookupE st.vE 11 = .int .i64 idx) (l12 : lookupE st.vE 12 = .ptr p 0) (l13 : lookupE st.vE 13 = .int .i64 k) :
    ∃ st', execL tab (.seq F12Pd (.seq F12Pe (.seq F12Pf F12Pg))) st = some (.ret, st') ∧ n0 ≤ st'.low ∧ n0 ≤ st'.H.length ∧ lookupE st'.vE 8 = .int .i64 idx ∧ lookupE st'.vE 10 = .bool true ∧ RowAt n0 st'.H (lookupE st'.vE 9) (tupleOf (dimsOf sizes t.cl) k) := by
  have hdl : (dimsOf sizes t.cl).length = t.cl.length := by simp [dimsOf]
  have h3 := (goodCols_in hgc).1
  have hpE : ∀ h : p < H.length, H[p]'h = .cells t.cells := fun h => by rw [List.getElem?_eq_getElem h] at hp; exact Option.some.inj hp
  have hm0 : min n0 H.length = n0 := Nat.min_eq_left hn
  have hpl : p < H.length := by
    rcases Nat.lt_or_ge p H.length with h | h
    · exact h
    · rw [List.getElem?_eq_none h] at hp; cases hp
  have F : ∀ (s2 : St) (v : V), lookupE s2.vE 11 = .int .i64 idx → lookupE s2.vE 14 = v → n0 ≤ s2.low → n0 ≤ s2.H.length → ∃ st', execL tab (.seq F12Pf F12Pg) s2 = some (.ret, st') ∧ n0 ≤ st'.low ∧ st'.H = s2.H ∧ lookupE st'.vE 8 = .int .i64 idx ∧ lookupE st'.vE 10 = .bool true ∧ lookupE st'.vE 9 = v := fun s2 v a b c d => by
    refine ⟨_, by simp [F12Pf, F12Pg, callBody, zipE, execL_seq, execL_region, execL_cond, execL_skip, execL_ret, execL_exit, execL_block, execOps, wantedA, S_mv, S_pick, S_bin, S_un, S_call0, S_call1, S_extract, S_nilEq, S_load, S_alloc, Opd.ev, lookupE, lookE_setE, St.put, binA, unA, boolOf, freezeVs, freezeV, freeze1, isP, isPs, resultsA, resultA, finish, old, olds, flat, movedH_same, Nat.min_self, loadA, readCells, cellsV_int, a, b]; rfl, ?_⟩
    exact ⟨by simp; omega, by simp, by simp [lookE_setE], by simp [lookE_setE], by simp [lookE_setE]⟩
  by_cases hz : t.cl = []
  · have hz2 : t.cl.length = 0 := by rw [hz]; rfl
    have hel : (el t.cv).length = 0 := by rw [ht.cols.len, hz2]
    have D : ∃ s1, execL tab F12Pd st = some (.normal, s1) ∧ s1.H = H ∧ n0 ≤ s1.low ∧ s1.low ≤ s1.H.length ∧ lookupE s1.vE 14 = .emp ∧ lookupE s1.vE 11 = .int .i64 idx := by
      refine ⟨_, by simp [F12Pd, callBody, zipE, execL_seq, execL_region, execL_cond, execL_skip, execL_ret, execL_exit, execL_block, execOps, wantedA, S_mv, S_pick, S_bin, S_un, S_call0, S_call1, S_extract, S_nilEq, S_load, S_alloc, Opd.ev, lookupE, lookE_setE, St.put, binA, unA, boolOf, freezeVs, freezeV, freeze1, isP, isPs, resultsA, resultA, finish, old, olds, flat, movedH_same, Nat.min_self, loadA, readCells, cellsV_int, l12, hp, hpE, h1, hlow, S_fieldAddr, Tb.c2, Tb.e2, Tb.len, S_len 1, ht.cols.sl, hel, S_mkSlice, step, hm0]; rfl, rfl, ?_⟩
      exact ⟨by simp, by first | (simp; done) | (simp; omega), by simp [lookE_setE], by simp [lookE_setE, l11]⟩
    obtain ⟨s1, a1, a2, a3, a4, a5, a6⟩ := D
    have E : ∃ s2, execL tab F12Pe s1 = some (.normal, s2) ∧ s2.H = H ∧ n0 ≤ s2.low ∧ lookupE s2.vE 14 = .emp ∧ lookupE s2.vE 11 = .int .i64 idx := by
      have hw : IntKind.i64.wrap (-1) = -1 := rfl
      refine ⟨_, by simp [F12Pe, callBody, zipE, execL_seq, execL_region, execL_cond, execL_skip, execL_ret, execL_exit, execL_block, execOps, wantedA, S_mv, S_pick, S_bin, S_un, S_call0, S_call1, S_extract, S_nilEq, S_load, S_alloc, Opd.ev, lookupE, lookE_setE, St.put, binA, unA, boolOf, freezeVs, freezeV, freeze1, isP, isPs, resultsA, resultA, finish, old, olds, flat, movedH_same, Nat.min_self, loadA, readCells, cellsV_int, a5, S_len 1, slE, el, hw]; rw [execL_loop]; simp [F12L0, callBody, zipE, execL_seq, execL_region, execL_cond, execL_skip, execL_ret, execL_exit, execL_block, execOps, wantedA, S_mv, S_pick, S_bin, S_un, S_call0, S_call1, S_extract, S_nilEq, S_load, S_alloc, Opd.ev, lookupE, lookE_setE, St.put, binA, unA, boolOf, freezeVs, freezeV, freeze1, isP, isPs, resultsA, resultA, finish, old, olds, flat, movedH_same, Nat.min_self, loadA, readCells, cellsV_int]; rfl, ?_⟩
      exact ⟨by simp [a2], by simp; rw [a2] at *; omega, by simp [lookE_setE, a5], by simp [lookE_setE, a6]⟩
    obtain ⟨s2, b1, b2, b3, b4, b5⟩ := E
    obtain ⟨st', c1, c2, c3, c4, c5, c6⟩ := F s2 _ b5 b4 b3 (by rw [b2]; exact hn)
    refine ⟨st', ?_, c2, by rw [c3, b2]; exact hn, c4, c5, .inl ⟨?_, c6⟩⟩
    · rw [execL_seq, a1]
      simp only []
      rw [execL_seq, b1]
      exact c1
    · rw [hz]; rfl
  · have hpos : 0 < t.cl.length := List.length_pos_iff.2 hz
    have hnz : ¬ (t.cl.length : Int) = 0 := by omega
    have hnz' : ¬ t.cl.length = 0 := by omega
    have hcap : (t.cl.length : Int) * 9 ≤ 1099511627776 := by omega
    have D : ∃ s1, execL tab F12Pd st = some (.normal, s1) ∧ s1.H = H ++ [rowI (List.replicate t.cl.length 0)] ∧ n0 ≤ s1.low ∧ s1.low ≤ s1.H.length ∧ lookupE s1.vE 14 = .sref H.length 1 0 t.cl.length t.cl.length ∧ ∀ s, s ≠ 14 → lookupE s1.vE s = lookupE st.vE s := by
      refine ⟨_, by simp [F12Pd, callBody, zipE, execL_seq, execL_region, execL_cond, execL_skip, execL_ret, execL_exit, execL_block, execOps, wantedA, S_mv, S_pick, S_bin, S_un, S_call0, S_call1, S_extract, S_nilEq, S_load, S_alloc, Opd.ev, lookupE, lookE_setE, St.put, binA, unA, boolOf, freezeVs, freezeV, freeze1, isP, isPs, resultsA, resultA, finish, old, olds, flat, movedH_same, Nat.min_self, loadA, readCells, cellsV_int, l12, hp, hpE, h1, hlow, S_fieldAddr, Tb.c2, Tb.e2, Tb.len, S_len 1, ht.cols.sl, ht.cols.len, S_mkSlice, step, zeroElem, hnz, hnz', hz, hcap, hm0]; rfl, ?_⟩
      exact ⟨by simp [rowI], by simp; omega, by simp; omega, by simp [lookE_setE], fun s hs => by simp [lookE_setE, hs]⟩
    obtain ⟨s1, a1, a2, a3, a4, a5, a6⟩ := D
    have hrow : s1.H[H.length]? = some (rowI (List.replicate t.cl.length 0)) := by rw [a2]; simp
    have hp1 : s1.H[p]? = some (.cells t.cells) := by rw [a2]; exact get_app hp _
    have hw : IntKind.i64.wrap ((t.cl.length : Int) - 1) = (t.cl.length : Int) - 1 := by rw [wrap_small] <;> omega
    have E0 : ∃ s2, execL tab (.region [⟨some (56, false), .mv (.var 14), none⟩, ⟨some (57, false), .len 1 (.tmp 56), none⟩, ⟨some (58, false), .bin .sub (.tmp 57) (.const (.int .i64 1)), none⟩, ⟨some (15, true), .mv (.tmp 58), none⟩] none) s1 = some (.normal, s2) ∧ s2.H = s1.H ∧ n0 ≤ s2.low ∧ s2.low ≤ s2.H.length ∧ lookupE s2.vE 15 = .int .i64 ((t.cl.length : Int) - 1) ∧ ∀ s, s ≠ 15 → lookupE s2.vE s = lookupE s1.vE s := by
      have hrE : ∀ h : H.length < s1.H.length, s1.H[H.length]'h = rowI (List.replicate t.cl.length 0) := fun h => by rw [List.getElem?_eq_getElem h] at hrow; exact Option.some.inj hrow
      refine ⟨_, by simp [callBody, zipE, execL_seq, execL_region, execL_cond, execL_skip, execL_ret, execL_exit, execL_block, execOps, wantedA, S_mv, S_pick, S_bin, S_un, S_call0, S_call1, S_extract, S_nilEq, S_load, S_alloc, Opd.ev, lookupE, lookE_setE, St.put, binA, unA, boolOf, freezeVs, freezeV, freeze1, isP, isPs, resultsA, resultA, finish, old, olds, flat, movedH_same, Nat.min_self, loadA, readCells, cellsV_int, a5, S_lenR, isRow, hrow, hrE, rowI, hw]; rfl, ?_⟩
      exact ⟨by simp, by simp; omega, by simp; omega, by simp [lookE_setE], fun s hs => by simp [lookE_setE, hs]⟩
    obtain ⟨s2, b1, b2, b3, b4, b5, b6⟩ := E0
    obtain ⟨s3, d1, d2, d3, d4, d5⟩ := dig_loop (p := p) (q := H.length) (m0 := n0) hs ht hok hgc rfl (by omega) hn t.cl.length k (List.replicate t.cl.length 0) s2 (by simp) (Nat.le_refl _) hk.1 hk.2 (by rw [b2]; exact hrow) (by rw [b2]; exact hp1) b3 b4
      (by rw [b6 0 (by decide), a6 0 (by decide)]; exact l0) (by rw [b6 12 (by decide), a6 12 (by decide)]; exact l12) (by rw [b6 14 (by decide)]; exact a5) b5 (by rw [b6 13 (by decide), a6 13 (by decide)]; exact l13)
    obtain ⟨st', c1, c2, c3, c4, c5, c6⟩ := F s3 (.sref H.length 1 0 t.cl.length t.cl.length) (by rw [d5 11 (by decide) (by decide) (by decide) (by decide), b6 11 (by decide), a6 11 (by decide)]; exact l11) (by rw [d5 14 (by decide) (by decide) (by decide) (by decide), b6 14 (by decide)]; exact a5) d4 (by rw [d3, b2, a2]; simp; omega)
    have htl : (tupleOf (dimsOf sizes t.cl) k).length = t.cl.length := by unfold tupleOf; rw [dg_length]; simp [hdl]
    refine ⟨st', ?_, c2, by rw [c3, d3, b2, a2]; simp; omega, c4, c5, .inr ⟨fun e => ?_, H.length, hn, by rw [htl]; exact c6, ?_⟩⟩
    · rw [execL_seq, a1]
      simp only []
      have hE : F12Pe = .seq (.region [⟨some (56, false), .mv (.var 14), none⟩, ⟨some (57, false), .len 1 (.tmp 56), none⟩, ⟨some (58, false), .bin .sub (.tmp 57) (.const (.int .i64 1)), none⟩, ⟨some (15, true), .mv (.tmp 58), none⟩] none) (.block 2 (.loop F12L0)) := rfl
      rw [execL_seq, hE, execL_seq, b1]
      simp only []
      rw [execL_block, d1]
      simp only [if_true]
      exact c1
    · rw [e] at htl; simp at htl; omega
    · rw [c3, d2]
      unfold tupleOf
      rw [hdl]

set_option maxHeartbeats 1000000 in
theorem tu_loop {sizes : List Int} {sv tv : V} {ts : List Tb} {n : Nat} {strict : Bool} {cell : Int} (hs : VI sv sizes) (ht : VT tv ts) (hV : Valid sizes ts) (hc : 0 ≤ cell ∧ cell < 9223372036854775808) {st : St} (hH : n ≤ st.H.length) (hlow : st.low = n)
    (l0 : lookupE st.vE 0 = sv) (l2 : lookupE st.vE 2 = .bool strict) (l3 : lookupE st.vE 3 = .int .i64 cell) (l25 : lookupE st.vE 25 = tv) (l26 : lookupE st.vE 26 = .int .i64 ts.length) (l27 : lookupE st.vE 27 = .int .i64 0) :
    ∃ x st', execL tab (.loop (rangeBody 28 26 27 82 1 0 F12L1)) st = some (x, st') ∧ n ≤ st'.low ∧ n ≤ st'.H.length ∧ ((x = .exit 0 ∧ ts.findIdx? (hit sizes strict cell) = none) ∨
      (x = .ret ∧ ∃ i t, ts.findIdx? (hit sizes strict cell) = some i ∧ ts[i]? = some t ∧ lookupE st'.vE 8 = .int .i64 i ∧ lookupE st'.vE 10 = .bool true ∧ RowAt n st'.H (lookupE st'.vE 9) (tupleOf (dimsOf sizes t.cl) (cell - t.first)))) := by
  have key := range_loop (tab := tab) (b := 28) (n := 26) (i := 27) (t := 82) (blk := 1) (ex := 0) (body := F12L1)
    (I := fun k st => n ≤ st.H.length ∧ st.low = n ∧ lookupE st.vE 0 = sv ∧ lookupE st.vE 2 = .bool strict ∧ lookupE st.vE 3 = .int .i64 cell ∧ lookupE st.vE 25 = tv ∧ lookupE st.vE 27 = .int .i64 k ∧ lookupE st.vE 26 = .int .i64 ts.length ∧ ∀ t ∈ ts.take k, hit sizes strict cell t = false)
    (Q := fun x st' => n ≤ st'.low ∧ n ≤ st'.H.length ∧ ((x = .exit 0 ∧ ts.findIdx? (hit sizes strict cell) = none) ∨
      (x = .ret ∧ ∃ i t, ts.findIdx? (hit sizes strict cell) = some i ∧ ts[i]? = some t ∧ lookupE st'.vE 8 = .int .i64 i ∧ lookupE st'.vE 10 = .bool true ∧ RowAt n st'.H (lookupE st'.vE 9) (tupleOf (dimsOf sizes t.cl) (cell - t.first)))))
    (N := ts.length) ht.lt (by decide) (by decide)
    (fun k st h => ⟨h.2.2.2.2.2.2.1, h.2.2.2.2.2.2.2.1, by rw [h.2.1]; exact h.1⟩)
    (by
      rintro k st hk ⟨q1, q2, q3, q4, q5, q6, q7, q8, q9⟩
      obtain ⟨t, het⟩ : ∃ t, ts[k]? = some t := ⟨_, List.getElem?_eq_getElem hk⟩
      have hto := ht.ok t (List.mem_of_getElem? het)
      have hg := ht.get het
      have hgc := hV.good het
      have hfi := hV.end_le het
      have hwd := hV.widb het
      have hsa := hV.sum_all (strictB t)
      obtain ⟨s1, a1, a2, a3, a4, a5, a6⟩ := tu_a (n := n) (H := st.H) (st := { st with tE := [], vE := setE st.vE 28 (.bool true) }) ht.sl hg hto rfl q2 q1 (by simp [lookE_setE, q6]) (by simp [lookE_setE, q7])
      have K1 : ∀ s, s ∈ [0, 1, 2, 3, 25, 26, 27] → lookupE s1.vE s = lookupE st.vE s := fun s hs => by
        rw [a6 s hs]
        have : s ≠ 28 := by rintro rfl; simp at hs
        simp [lookE_setE, this]
      have hp1 : s1.H[st.H.length]? = some (.cells t.cells) := by rw [a2]; simp
      have hn1 : n ≤ s1.H.length := by rw [a2]; simp; omega
      obtain ⟨s2, b1, b2, b3, b4, b5, b6, b7⟩ := tu_b (n := n) (cell := cell) rfl a3 hn1 hp1 (by rw [K1 3 (by simp)]; exact q5) a4 hc ⟨hfi.1, by omega⟩
      obtain ⟨s3, c1, c2, c3, c4, c5, c6, c7⟩ := tu_c (n := n) (strict := strict) (cell := cell) hs hto hV.ok hgc b2 b3 hn1 hp1 (by rw [b7 0 (by simp), K1 0 (by simp)]; exact q3) (by rw [b7 2 (by simp), K1 2 (by simp)]; exact q4) b6 b4
      have K3 : ∀ s, s ∈ [0, 1, 2, 3, 25, 26, 27] → lookupE s3.vE s = lookupE st.vE s := fun s hs => by rw [c7 s hs, b7 s hs, K1 s hs]
      cases hh : hit sizes strict cell t with
      | false =>
        rw [hh] at c1
        refine ⟨.exit 1, s3, ?_, ?_⟩
        · rw [F12L1_parts, execL_seq, a1]
          simp only []
          rw [execL_seq, b1]
          simp only []
          rw [execL_seq, c1]
          simp
        · simp only [or_true, if_true]
          have hn3 : n ≤ s3.H.length := by rw [c2]; exact hn1
          refine ⟨by rw [K3 27 (by simp)]; exact q7, by rw [c3]; exact hn3, hn3, c3, ?_, ?_, ?_, ?_, ?_, ?_, ?_⟩
          · simp only [lookE_setE]; rw [K3 0 (by simp)]; simpa using q3
          · simp only [lookE_setE]; rw [K3 2 (by simp)]; simpa using q4
          · simp only [lookE_setE]; rw [K3 3 (by simp)]; simpa using q5
          · simp only [lookE_setE]; rw [K3 25 (by simp)]; simpa using q6
          · simp [lookE_setE]
          · simp only [lookE_setE]; rw [K3 26 (by simp)]; simpa using q8
          · intro m hm
            rw [List.take_add_one, het] at hm
            simp at hm
            rcases hm with hm | rfl
            · exact q9 m hm
            · exact hh
      | true =>
        rw [hh] at c1
        have hk2 : 0 ≤ cell - t.first ∧ cell - t.first < wid sizes t := by
          simp only [hit, Bool.and_eq_true, decide_eq_true_eq] at hh
          exact ⟨hh.1.2, hh.2⟩
        obtain ⟨s4, d1, d2, d3, d4, d5, d6⟩ := tu_found (n0 := n) (idx := k) (k := cell - t.first) hs hto hV.ok hgc c2 c3 hn1 hp1 ⟨hk2.1, by omega⟩ (by rw [K3 0 (by simp)]; exact q3) (by rw [c4, b5]; exact a5) c5 c6
        refine ⟨.ret, s4, ?_, ?_⟩
        · rw [F12L1_parts, execL_seq, a1]
          simp only []
          rw [execL_seq, b1]
          simp only []
          rw [execL_seq, c1]
          simp only [if_true]
          exact d1
        · simp only [reduceCtorEq, or_self, if_false]
          refine ⟨d2, d3, .inr ⟨trivial, k, t, ?_, het, d4, d5, d6⟩⟩
          rw [List.findIdx?_eq_some_iff_getElem]
          refine ⟨hk, ?_, fun j hj => ?_⟩
          · have : ts[k] = t := by rw [List.getElem?_eq_getElem hk] at het; exact Option.some.inj het
            rw [this]; exact hh
          · have : ts[j] ∈ ts.take k := List.mem_take_iff_getElem.2 ⟨j, by omega, rfl⟩
            simp [q9 _ this])
    (by
      rintro st ⟨q1, q2, q3, q4, q5, q6, q7, q8, q9⟩
      refine ⟨by show n ≤ st.low; omega, q1, .inl ⟨rfl, ?_⟩⟩
      rw [List.findIdx?_eq_none_iff]
      intro t hm
      exact q9 t (by rw [List.take_length]; exact hm))
  exact key ts.length 0 st (by omega) ⟨hH, hlow, l0, l2, l3, l25, l27, l26, fun t hm => by simp at hm⟩

set_option maxHeartbeats 2000000 in
theorem tuple_s {sizes : List Int} {sv tv : V} {ts : List Tb} {strict : Bool} {cell : Int} (hs : VI sv sizes) (ht : VT tv ts) (hc : cell < 9223372036854775808) (H : Heap) :
    Ans (.fn 12 [] []) [sv, tv, .bool strict, .int .i64 cell] H (tupleR sizes ts strict cell) := by
  have hv := valid_s hs ht H
  unfold Ans at *
  rw [callL_fn, show tab 12 = some (.code F12) from rfl]
  unfold tupleR
  cases hV : validB sizes ts with
  | false =>
    rw [hV] at hv
    simp [F12, callBody, zipE, execL_seq, execL_region, execL_cond, execL_skip, execL_ret, execL_exit, execL_block, execOps, wantedA, S_mv, S_pick, S_bin, S_un, S_call0, S_call1, S_extract, S_nilEq, S_load, S_alloc, Opd.ev, lookupE, setE, St.put, binA, unA, boolOf, freezeVs, freezeV, freeze1, isP, isPs, resultsA, resultA, finish, old, olds, flat, movedH_same, Nat.min_self, loadA, readCells, cellsV_int, slE_isP hs.sl, slE_isP ht.sl, hv]
  | true =>
    rw [hV] at hv
    have hVd := valid_iff.1 hV
    by_cases h0 : cell < 0
    · simp [F12, callBody, zipE, execL_seq, execL_region, execL_cond, execL_skip, execL_ret, execL_exit, execL_block, execOps, wantedA, S_mv, S_pick, S_bin, S_un, S_call0, S_call1, S_extract, S_nilEq, S_load, S_alloc, Opd.ev, lookupE, setE, St.put, binA, unA, boolOf, freezeVs, freezeV, freeze1, isP, isPs, resultsA, resultA, finish, old, olds, flat, movedH_same, Nat.min_self, loadA, readCells, cellsV_int, slE_isP hs.sl, slE_isP ht.sl, hv, h0]
    · obtain ⟨x, st', r1, r2, r3, r4⟩ := tu_loop (n := H.length) (strict := strict) hs ht hVd ⟨by omega, hc⟩
        (st := { tE := [], vE := [(0, sv), (1, tv), (2, .bool strict), (3, .int .i64 cell), (8, .int .i64 0), (9, .nil0), (10, .bool false), (24, .bool false), (25, tv), (26, .int .i64 ts.length), (27, .int .i64 0)], H := H, low := H.length }) (Nat.le_refl _) rfl rfl rfl rfl rfl rfl rfl
      have hmin : min H.length st'.H.length = H.length := Nat.min_eq_left r3
      have hmin2 : H.length ≤ min st'.low st'.H.length := by omega
      rcases r4 with ⟨rfl, r4⟩ | ⟨rfl, i, t, r4, r5, r6, r7, r8⟩
      · simp [F12, callBody, zipE, execL_seq, execL_region, execL_cond, execL_skip, execL_ret, execL_exit, execL_block, execOps, wantedA, S_mv, S_pick, S_bin, S_un, S_call0, S_call1, S_extract, S_nilEq, S_load, S_alloc, Opd.ev, lookupE, setE, St.put, binA, unA, boolOf, freezeVs, freezeV, freeze1, isP, isPs, resultsA, resultA, finish, old, olds, flat, movedH_same, Nat.min_self, loadA, readCells, cellsV_int, slE_isP hs.sl, slE_isP ht.sl, hv, h0, S_len 6, ht.sl, ht.len, r1, r2, r3, r4, lookE_setE, hmin2]
      · rcases r8 with ⟨e1, e2⟩ | ⟨e1, q, e2, e3, e4⟩
        · simp [F12, callBody, zipE, execL_seq, execL_region, execL_cond, execL_skip, execL_ret, execL_exit, execL_block, execOps, wantedA, S_mv, S_pick, S_bin, S_un, S_call0, S_call1, S_extract, S_nilEq, S_load, S_alloc, Opd.ev, lookupE, setE, St.put, binA, unA, boolOf, freezeVs, freezeV, freeze1, isP, isPs, resultsA, resultA, finish, old, olds, flat, movedH_same, Nat.min_self, loadA, readCells, cellsV_int, slE_isP hs.sl, slE_isP ht.sl, hv, h0, S_len 6, ht.sl, ht.len, r1, r2, r3, r4, r5, r6, r7, e1, e2, tupV, lookE_setE]
        · have e4E : ∀ h : q < st'.H.length, st'.H[q]'h = rowI (tupleOf (dimsOf sizes t.cl) (cell - t.first)) := fun h => by rw [List.getElem?_eq_getElem h] at e4; exact Option.some.inj e4
          have hip := isPs_ints (tupleOf (dimsOf sizes t.cl) (cell - t.first))
          generalize hl : tupleOf (dimsOf sizes t.cl) (cell - t.first) = l at *
          have htk : List.take l.length (l.map (V.int .i64)) = l.map (V.int .i64) := List.take_of_length_le (by simp)
          simp [F12, callBody, zipE, execL_seq, execL_region, execL_cond, execL_skip, execL_ret, execL_exit, execL_block, execOps, wantedA, S_mv, S_pick, S_bin, S_un, S_call0, S_call1, S_extract, S_nilEq, S_load, S_alloc, Opd.ev, lookupE, setE, St.put, binA, unA, boolOf, freezeVs, freezeV, freeze1, isP, isPs, resultsA, resultA, finish, old, olds, flat, movedH_same, Nat.min_self, loadA, readCells, cellsV_int, slE_isP hs.sl, slE_isP ht.sl, hv, h0, S_len 6, ht.sl, ht.len, r1, r2, r3, r4, r5, r6, r7, hl, e1, e2, e3, e4, e4E, rowI, hip, htk, freezeL, tupV, lookE_setE]
          intro h; omega
end Go.Abs.T09
/- slices.Repeat of one range. -/
namespace Go.Abs.T09
open Go Go.Abs

def u64 (n : Int) : V := .int .u64 n
theorem b_and {W : Nat} (h : W < 4294967296) : binA .and (u64 W) (u64 4294967295) = some (u64 W) := by
  have e : (BitVec.ofInt 64 (W : Int) &&& BitVec.ofInt 64 4294967295).toNat = W := by
    rw [BitVec.toNat_and]
    have h1 : (BitVec.ofInt 64 (W : Int)).toNat = W := by
      rw [BitVec.toNat_ofInt]; omega
    have h2 : (BitVec.ofInt 64 4294967295).toNat = 2 ^ 32 - 1 := by decide
    rw [h1, h2, Nat.and_two_pow_sub_one_eq_mod]
    omega
  have e0 : binA .and (u64 W) (u64 4294967295) = some (.int .u64 (IntKind.u64.wrap ((BitVec.ofInt 64 (W : Int) &&& BitVec.ofInt 64 4294967295).toNat : Int))) := rfl
  rw [e0, e]
  have : IntKind.u64.wrap (W : Int) = W := by
    have e1 : (2 ^ IntKind.u64.bits : Int) = 18446744073709551616 := rfl
    have s : IntKind.u64.signed = false := rfl
    simp only [IntKind.wrap, e1, s, Bool.false_and]
    simp; omega
  rw [this]; rfl
theorem wrap_u {n : Int} (h1 : 0 ≤ n) (h2 : n < 18446744073709551616) : IntKind.u64.wrap n = n := by
  have e1 : (2 ^ IntKind.u64.bits : Int) = 18446744073709551616 := rfl
  have s : IntKind.u64.signed = false := rfl
  simp only [IntKind.wrap, e1, s, Bool.false_and]
  simp; omega
theorem b_shr {W : Nat} (h : W < 4294967296) : binA .shr (u64 W) (u64 32) = some (u64 0) := by
  have : (W : Int) / 4294967296 = 0 := Int.ediv_eq_zero_of_lt (by omega) (by omega)
  simp [u64, binA, IntKind.bits, this]
theorem b_mul1 {W : Nat} (h : W < 4294967296) : binA .mul (u64 1) (u64 W) = some (u64 W) := by
  simp [u64, binA, wrap_u (n := (W : Int)) (by omega) (by omega)]
theorem b_mul0 {W : Nat} : binA .mul (u64 0) (u64 W) = some (u64 0) := by
  simp [u64, binA, wrap_u (n := 0) (by omega) (by omega)]
theorem b1 : binA .and (u64 1) (u64 4294967295) = some (u64 1) := b_and (W := 1) (by decide)
theorem b2 : binA .shr (u64 1) (u64 32) = some (u64 0) := b_shr (W := 1) (by decide)
theorem b3 : binA .add (u64 0) (u64 0) = some (u64 0) := by kernel_rfl
theorem b4 : binA .and (u64 0) (u64 4294967295) = some (u64 0) := b_and (W := 0) (by decide)
theorem b5 : binA .shr (u64 0) (u64 32) = some (u64 0) := b_shr (W := 0) (by decide)
theorem b6 : binA .mul (u64 1) (u64 0) = some (u64 0) := by kernel_rfl
theorem b7 : binA .mul (u64 0) (u64 0) = some (u64 0) := by kernel_rfl

set_option maxHeartbeats 1000000 in
theorem mul64_s {W : Nat} (h : W < 4294967296) (H : Heap) : Ans (.fn 94 [] []) [u64 1, u64 W] H (.tup [u64 0, u64 W]) := by
  unfold Ans
  have c : ∀ n, V.int .u64 n = u64 n := fun _ => rfl
  have i1 : ∀ n, isP (u64 n) = true := fun _ => rfl
  rw [callL_fn, show tab 94 = some (.code F94) from rfl]
  simp [F94, callBody, zipE, execL_seq, execL_region, execL_ret, execOps, wantedA, S_mv, S_bin, Opd.ev, lookupE, setE, St.put, freezeV, isP, isPs, resultsA, resultA, finish, old, olds, Nat.min_self, movedH_same, c, i1, b_and h, b_shr h, b_mul1 h, b_mul0, b1, b2, b3, b4, b5, b6, b7]

theorem S_convI {call : CallT} {ev : Opd → V} {H : Heap} {low : Nat} (k : IntKind) (x : Opd) : stepC call ev H low (.conv k x) = step ev H low (.conv k x) := rfl

set_option maxHeartbeats 1000000 in
theorem mul_s {W : Nat} (h : W < 4294967296) (H : Heap) : Ans (.fn 80 [] []) [.int .u64 1, .int .u64 W] H (.tup [.int .u64 0, .int .u64 W]) := by
  have hm := mul64_s h H
  unfold Ans u64 at *
  rw [callL_fn, show tab 80 = some (.code F80) from rfl]
  simp [F80, callBody, zipE, execL_seq, execL_region, execL_cond, execL_skip, execL_ret, execL_exit, execL_block, execOps, wantedA, S_mv, S_pick, S_bin, S_un, S_call0, S_call1, S_extract, S_nilEq, S_load, S_alloc, S_box, Opd.ev, lookupE, setE, St.put, binA, unA, boolOf, freezeVs, freezeV, freeze1, isP, isPs, resultsA, resultA, finish, old, olds, flat, movedH_same, Nat.min_self, loadA, readCells, cellsV, hm]

def rngV (lo hi : Int) : V := .agg [.int .i64 lo, .int .i64 hi]
def zV : V := .agg [.int .i64 0, .int .i64 0]
def part (e : V) (m W : Nat) : List V := List.replicate m e ++ List.replicate (W - m) zV
theorem part_len {e : V} {m W : Nat} (h : m ≤ W) : (part e m W).length = W := by simp [part]; omega
theorem part_take {e : V} {m W : Nat} : (part e m W).take m = List.replicate m e := by simp [part, List.take_append]
theorem part_step {e : V} {m W : Nat} (h : m ≤ W) (h1 : 1 ≤ m) : (part e m W).take m ++ ((part e m W).take m).take (W - m) ++ (part e m W).drop (m + min (W - m) m) = part e (m + min (W - m) m) W := by
  rw [part_take, List.take_replicate]
  unfold part
  rw [List.drop_append, List.drop_replicate, List.drop_replicate, List.length_replicate]
  rw [show m - (m + min (W - m) m) = 0 by omega]
  simp only [List.replicate_zero, List.nil_append]
  rw [show W - m - (m + min (W - m) m - m) = W - (m + min (W - m) m) by omega, List.replicate_append_replicate]

theorem plain_part {a b : Int} (m : Nat) : plainCells ((List.replicate m (rngV a b)).flatMap cellsV) = true := by
  induction m with
  | zero => rfl
  | succ m ih => rw [List.replicate_succ, List.flatMap_cons]; simp [rngV, cellsV, plainCells, plainCell] at ih ⊢; exact ih
end Go.Abs.T09
/- slices.Repeat of one range, whole. -/
namespace Go.Abs.T09
open Go Go.Abs

set_option maxHeartbeats 1000000 in
theorem rep_loop {a b : Int} {W : Nat} {H : Heap} (hW : W ≤ 1000) : ∀ (j m : Nat) (st : St), m + j = W → 1 ≤ m → st.H = H ++ [.row 2 (part (rngV a b) m W) false] → H.length ≤ st.low → st.low ≤ H.length + 1 → lookupE st.vE 7 = .sref H.length 2 0 W W → lookupE st.vE 8 = .int .i64 m →
    ∃ st', execL tab (.loop F57L0) st = some (.exit 0, st') ∧ st'.H = H ++ [.row 2 (part (rngV a b) W W) false] ∧ H.length ≤ st'.low ∧ lookupE st'.vE 7 = .sref H.length 2 0 W W := by
  intro j
  induction j using Nat.strongRecOn with
  | ind j ih =>
    intro m st hj hm h1 h2 h2' l7 l8
    have hpl := part_len (e := rngV a b) (m := m) (W := W) (by omega)
    by_cases hmW : m = W
    · subst hmW
      rw [execL_loop]
      refine ⟨_, by simp [F57L0, callBody, zipE, execL_seq, execL_region, execL_cond, execL_skip, execL_ret, execL_exit, execL_block, execOps, wantedA, S_mv, S_pick, S_bin, S_un, S_call0, S_call1, S_extract, S_nilEq, S_load, S_alloc, Opd.ev, lookupE, lookE_setE, St.put, binA, unA, boolOf, freezeVs, freezeV, freeze1, isP, isPs, resultsA, resultA, finish, old, olds, flat, movedH_same, Nat.min_self, loadA, readCells, cellsV_int, h1, l7, l8, S_lenR, isRow, get_off0, hpl]; rfl, ?_⟩
      exact ⟨by simp, by simp; omega, by simp [lookE_setE, l7]⟩
    · have hlt : (m : Int) < (W : Int) := by omega
      have hlt' : m < W := by omega
      have hle' : m ≤ W := by omega
      have hpp := plain_part (a := a) (b := b) m
      have hst := part_step (e := rngV a b) (m := m) (W := W) (by omega) hm
      have hw : IntKind.i64.wrap ((m : Int) + ((min (W - m) m : Nat) : Int)) = ((m + min (W - m) m : Nat) : Int) := by rw [wrap_small] <;> omega
      have htk := part_take (e := rngV a b) (m := m) (W := W)
      have hrl : (List.replicate m (rngV a b)).length = m := by simp
      have hmW2 : m + (W - m) = W := by omega
      have hstep : ∃ st1, execL tab F57L0 st = some (.normal, st1) ∧ st1.H = H ++ [.row 2 (part (rngV a b) (m + min (W - m) m) W) false] ∧ H.length ≤ st1.low ∧ st1.low ≤ H.length + 1 ∧ lookupE st1.vE 7 = .sref H.length 2 0 W W ∧ lookupE st1.vE 8 = .int .i64 ((m + min (W - m) m : Nat) : Int) := by
        generalize hP : part (rngV a b) m W = P at *
        have hm0 : 0 < m := hm
        refine ⟨_, by simp [F57L0, callBody, zipE, execL_seq, execL_region, execL_cond, execL_skip, execL_ret, execL_exit, execL_block, execOps, wantedA, S_mv, S_pick, S_bin, S_un, S_call0, S_call1, S_extract, S_nilEq, S_load, S_alloc, Opd.ev, lookupE, lookE_setE, St.put, binA, unA, boolOf, freezeVs, freezeV, freeze1, isP, isPs, resultsA, resultA, finish, old, olds, flat, movedH_same, Nat.min_self, loadA, readCells, cellsV_int, h1, l7, l8, S_lenR, isRow, get_off0, set_off0, hpl, hlt, hlt', hle', hm0, S_sliceL, S_copy, step, bnd, elems, htk, hrl, hpp, hmW2, hw, movedH, inOrder, touches, -List.take_replicate]; exact ⟨by decide, rfl⟩, ?_⟩
        refine ⟨?_, by simp; omega, by simp; omega, by simp [lookE_setE, l7], by simp [lookE_setE]⟩
        rw [htk] at hst
        simp [← hst, -List.take_replicate]
      obtain ⟨st1, q1, q2, q3, q4, q5, q6⟩ := hstep
      obtain ⟨st', r1, r2⟩ := ih (W - (m + min (W - m) m)) (by omega) (m + min (W - m) m) st1 (by omega) (by omega) q2 q3 q4 q5 q6
      exact ⟨st', by rw [execL_loop, q1]; exact r1, r2⟩

theorem olds_part (n : Nat) (a b : Int) (m : Nat) : olds n (List.replicate m (rngV a b)) = true := by
  induction m with
  | zero => rfl
  | succ m ih => rw [List.replicate_succ]; simp only [olds, ih, Bool.and_true]; rfl

set_option maxHeartbeats 2000000 in
theorem repeat_s {a b : Int} {W : Nat} (hW : W ≤ 1000) (h1 : 1 ≤ W) (H : Heap) :
    callL tab (.fn 57 [] []) [.list 2 [rngV a b], .int .i64 W] H = some (.sref H.length 2 0 W W, H ++ [.row 2 (List.replicate W (rngV a b)) false], H.length) := by
  have hm := mul_s (W := W) (by omega) H
  unfold Ans at hm
  have hu1 : IntKind.u64.wrap 1 = 1 := wrap_u (by omega) (by omega)
  have hu2 : IntKind.u64.wrap (W : Int) = W := wrap_u (by omega) (by omega)
  have hi : IntKind.i64.wrap (W : Int) = W := by rw [wrap_small] <;> omega
  have hneg : ¬ (W : Int) < 0 := by omega
  have hbig : ¬ (W : Int) > 9223372036854775807 := by omega
  have hbig' : ¬ (9223372036854775807 : Int) < (W : Int) := by omega
  have hcap : (W : Int) * 17 ≤ 1099511627776 := by omega
  have hnz : ¬ (W : Int) = 0 := by omega
  have hnz' : ¬ W = 0 := by omega
  have hnn : (0 : Int) ≤ W := by omega
  have hmin : min W 1 = 1 := by omega
  have hp1 : plainCells (List.flatMap cellsV [rngV a b]) = true := rfl
  have hpart : part (rngV a b) 1 W = rngV a b :: List.replicate (W - 1) zV := rfl
  have hfull : part (rngV a b) W W = List.replicate W (rngV a b) := by simp [part]
  obtain ⟨st', r1, r2, r3, r4⟩ := rep_loop (a := a) (b := b) (W := W) (H := H) hW (W - 1) 1
    { tE := [], vE := [(0, .list 2 [rngV a b]), (1, .int .i64 W), (4, .nil0), (10, .bool false), (5, .int .u64 0), (6, .int .u64 W), (26, .bool false), (7, .sref H.length 2 0 W W), (8, .int .i64 1)], H := H ++ [.row 2 (part (rngV a b) 1 W) false], low := H.length } (by omega) (Nat.le_refl _) rfl (Nat.le_refl _) (by simp) rfl rfl
  rw [hfull] at r2
  have hold := olds_part H.length a b W
  have htk1 : List.take W [rngV a b] = [rngV a b] := List.take_of_length_le (by simpa using h1)
  have hz : V.agg [V.int .i64 0, V.int .i64 0] = zV := rfl
  rw [hpart] at r1
  rw [callL_fn, show tab 57 = some (.code F57) from rfl]
  have hsl : slE 2 (V.list 2 [rngV a b]) = true := rfl
  have hel : (el (V.list 2 [rngV a b])).length = 1 := rfl
  simp [F57, callBody, zipE, execL_seq, execL_region, execL_cond, execL_skip, execL_ret, execL_exit, execL_block, execOps, wantedA, S_mv, S_pick, S_bin, S_un, S_call0, S_call1, S_extract, S_nilEq, S_load, S_alloc, Opd.ev, lookupE, setE, St.put, binA, unA, boolOf, freezeVs, freezeV, freeze1, isP, isPs, resultsA, resultA, finish, old, olds, flat, movedH_same, Nat.min_self, loadA, readCells, cellsV_int, S_len 2, hsl, hel, S_convI, step, hu1, hu2, hi, hm, hneg, hbig, hbig', S_mkSlice, zeroElem, hz, hcap, hnz, hnz', hnn, S_copy, elems, get_off0, set_off0, htk1, hp1, hmin, r1, r2, r3, r4, hold, lookE_setE, -List.flatMap_cons]
  omega
end Go.Abs.T09
/- cells.Ranges and cells.Count. -/
namespace Go.Abs.T09
open Go Go.Abs

/-- The ranges of all cells of one kind. -/
def rngs (b : Bool) (sizes : List Int) (ts : List Tb) : List V := (ts.map fun t => if strictB t == b then List.replicate (wid sizes t).toNat (rngV t.lo t.hi) else []).flatten
theorem rngs_succ {b : Bool} {sizes : List Int} {ts : List Tb} {k : Nat} {t : Tb} (h : ts[k]? = some t) : rngs b sizes (ts.take (k + 1)) = rngs b sizes (ts.take k) ++ if strictB t == b then List.replicate (wid sizes t).toNat (rngV t.lo t.hi) else [] := by
  unfold rngs
  rw [List.take_add_one, h]
  simp
theorem rngs_len {sizes : List Int} {ts : List Tb} (hV : Valid sizes ts) (b : Bool) : ∀ k, ((rngs b sizes (ts.take k)).length : Int) = sumB b sizes (ts.take k)
  | 0 => by simp [rngs, sumB]
  | k + 1 => by
    have ih := rngs_len hV b k
    cases e : ts[k]? with
    | none =>
      have hle := List.getElem?_eq_none_iff.1 e
      have e1 : ts.take (k + 1) = ts := List.take_of_length_le (by omega)
      have e2 : ts.take k = ts := List.take_of_length_le hle
      rw [e2] at ih; rw [e1]; exact ih
    | some t =>
      have := hV.widb e
      rw [rngs_succ e, sumB_succ e, List.length_append]
      split
      · simp; omega
      · simp; omega
theorem rngs_isPs (b : Bool) (sizes : List Int) (ts : List Tb) : isPs (rngs b sizes ts) = true := by
  have app : ∀ (x y : List V), isPs x = true → isPs y = true → isPs (x ++ y) = true := by
    intro x y hx hy
    induction x with
    | nil => exact hy
    | cons v x ih => simp only [isPs, Bool.and_eq_true] at hx; simp only [List.cons_append, isPs, hx.1, ih hx.2]; rfl
  have rep : ∀ m a c, isPs (List.replicate m (rngV a c)) = true := by
    intro m a c
    induction m with
    | zero => rfl
    | succ m ih => rw [List.replicate_succ]; simp only [isPs, ih, Bool.and_true]; rfl
  unfold rngs
  induction ts with
  | nil => rfl
  | cons t ts ih =>
    simp only [List.map_cons, List.flatten_cons]
    refine app _ _ ?_ ih
    split
    · exact rep _ _ _
    · rfl

/-- What the loop holds so far. -/
def OutAt (n0 : Nat) (H : Heap) (v : V) (l : List V) : Prop := (l = [] ∧ v = .nil0) ∨ (l ≠ [] ∧ ∃ q, n0 ≤ q ∧ v = .sref q 2 0 l.length l.length ∧ H[q]? = some (.row 2 l false))

theorem OutAt.app {n0 : Nat} {H : Heap} {v : V} {l : List V} (h : OutAt n0 H v l) (t : Heap) : OutAt n0 (H ++ t) v l := by
  rcases h with h | ⟨a, q, b, c, d⟩
  · exact .inl h
  · exact .inr ⟨a, q, b, c, get_app d t⟩

def F31Pa : ACode := .region [⟨some (18, false), .indexAddr 6 (.var 14) (.var 16), none⟩, ⟨some (19, false), .load (some 6) (.tmp 18), none⟩, ⟨some (9, true), .alloc [.str [], .int .i64 0, .nil0, .int .i64 0, .int .i64 0, .int .i64 0], none⟩, ⟨none, .store 6 (.var 9) (.tmp 19), none⟩] none
def F31Pb : ACode := .region [⟨some (20, false), .load (some 6) (.var 9), none⟩, ⟨some (21, false), .call false (.func 33) [(.tmp 20)], none⟩, ⟨some (22, false), .mv (.var 2), none⟩, ⟨some (23, true), .nilEq 4 false (.tmp 21) (.tmp 22), none⟩] none
def F31Pc : ACode := .cond (.var 23) (.region [⟨some (24, false), .mv (.var 7), none⟩, ⟨some (25, false), .fieldAddr 3 (.var 9), none⟩, ⟨some (26, false), .load (some 2) (.tmp 25), none⟩, ⟨some (27, false), .lit 2 [.int .i64 0, .int .i64 0] 1 [(0, (.tmp 26))] true, none⟩, ⟨some (28, false), .mv (.var 0), none⟩, ⟨some (29, false), .fieldAddr 2 (.var 9), none⟩, ⟨some (30, false), .load none (.tmp 29), none⟩, ⟨some (31, false), .call false (.func 34) [(.tmp 28), (.tmp 30)], none⟩, ⟨some (32, false), .call false (.func 57) [(.tmp 27), (.tmp 31)], none⟩, ⟨some (33, false), .append 2 16 (.tmp 24) (.tmp 32), none⟩, ⟨some (7, true), .mv (.tmp 33), none⟩] (some [0, 0, 2, 6, 0, 0, 32, 112, 254, 511, 1023])) (.skip)
theorem F31L0_parts : F31L0 = .seq F31Pa (.seq F31Pb (F31Pc)) := rfl

theorem execL_len {c : ACode} {st st' : St} {x : X} (h : execL tab c st = some (x, st')) (hl : st.low ≤ st.H.length) : st.H.length ≤ st'.H.length := by
  obtain ⟨n, hn⟩ := execL_iff.1 h
  exact (exec_fr (callN_fr tab n) n _ _ _ _ hl hn).1.len
theorem freezeVs_isPs (H : Heap) (low : Nat) (l : List V) (h : isPs l = true) : freezeVs H low l = some (l, H, low) := by
  induction l with
  | nil => rfl
  | cons v l ih =>
    simp only [isPs, Bool.and_eq_true] at h
    simp only [freezeVs, freezeV, h.1, if_true, ih h.2]
theorem cellsOk_rep (m : Nat) (a b : Int) : cellsOk ((List.replicate m (rngV a b)).flatMap cellsV) = true := by
  induction m with
  | zero => rfl
  | succ m ih => rw [List.replicate_succ, List.flatMap_cons]; simp [rngV, cellsV, cellsOk, cellOk] at ih ⊢; exact ih
theorem isPs_rep (m : Nat) (a c : Int) : isPs (List.replicate m (rngV a c)) = true := by
  induction m with
  | zero => rfl
  | succ m ih => rw [List.replicate_succ]; simp only [isPs, ih, Bool.and_true]; rfl

theorem rg_a {tv : V} {k n : Nat} {t : Tb} {H : Heap} {st : St} (hsl : slE 6 tv = true) (hg : (el tv)[k]? = some t.v) (ht : TbOk t) (h1 : st.H = H) (hlow : n ≤ st.low) (hn : n ≤ H.length) (l14 : lookupE st.vE 14 = tv) (l16 : lookupE st.vE 16 = .int .i64 k) :
    ∃ st', execL tab F31Pa st = some (.normal, st') ∧ st'.H = H ++ [.cells t.cells] ∧ n ≤ st'.low ∧ lookupE st'.vE 9 = .ptr H.length 0 ∧ ∀ s, s ≠ 9 → lookupE st'.vE s = lookupE st.vE s := by
  have hco := ht.cells
  have hset : setCells [V.str [], .int .i64 0, .nil0, .int .i64 0, .int .i64 0, .int .i64 0] 0 t.cells = t.cells := rfl
  refine ⟨_, by simp [F31Pa, callBody, zipE, execL_seq, execL_region, execL_cond, execL_skip, execL_ret, execL_exit, execL_block, execOps, wantedA, S_mv, S_pick, S_bin, S_un, S_call0, S_call1, S_extract, S_nilEq, S_load, S_alloc, Opd.ev, lookupE, lookE_setE, St.put, binA, unA, boolOf, freezeVs, freezeV, freeze1, isP, isPs, resultsA, resultA, finish, old, olds, flat, movedH_same, Nat.min_self, loadA, readCells, cellsV_int, l14, l16, S_index, hsl, hg, Tb.v, cellsV_agg, Tb.len, Tb.t6, S_store, storeA, hco, hset, h1]; rfl, ?_⟩
  exact ⟨by simp, by simp; omega, by simp [lookE_setE], fun s hs => by simp [lookE_setE, hs]⟩
theorem rg_b {p n : Nat} {strict : Bool} {t : Tb} {H : Heap} {st : St} (ht : TbOk t) (h1 : st.H = H) (hlow : n ≤ st.low) (hn : n ≤ H.length) (hp : H[p]? = some (.cells t.cells)) (l2 : lookupE st.vE 2 = .bool strict) (l9 : lookupE st.vE 9 = .ptr p 0) :
    ∃ st', execL tab F31Pb st = some (.normal, st') ∧ st'.H = H ∧ n ≤ st'.low ∧ lookupE st'.vE 23 = .bool (strictB t == strict) ∧ ∀ s, s ≠ 23 → lookupE st'.vE s = lookupE st.vE s := by
  have hpE : ∀ h : p < H.length, H[p]'h = .cells t.cells := fun h => by rw [List.getElem?_eq_getElem h] at hp; exact Option.some.inj hp
  have c1 : callL tab (.fn 33 [] []) [.agg t.cells] H = some (.bool (strictB t), H, H.length) := isStrict_s ht H
  refine ⟨_, by simp [F31Pb, callBody, zipE, execL_seq, execL_region, execL_cond, execL_skip, execL_ret, execL_exit, execL_block, execOps, wantedA, S_mv, S_pick, S_bin, S_un, S_call0, S_call1, S_extract, S_nilEq, S_load, S_alloc, Opd.ev, lookupE, lookE_setE, St.put, binA, unA, boolOf, freezeVs, freezeV, freeze1, isP, isPs, resultsA, resultA, finish, old, olds, flat, movedH_same, Nat.min_self, loadA, readCells, cellsV_int, l2, l9, hp, hpE, h1, Tb.t6, Tb.len, ht.isP, c1, nilEqA]; rfl, rfl, ?_⟩
  exact ⟨by simp; omega, by simp [lookE_setE], fun s hs => by simp [lookE_setE, hs]⟩

set_option maxHeartbeats 2000000 in
theorem rg_c {p n : Nat} {sizes : List Int} {sv : V} {t : Tb} {H : Heap} {st : St} {l : List V} (hs : VI sv sizes) (ht : TbOk t) (hok : sizes.all okSize = true) (hgc : goodCols sizes t.cl = true) (h1 : st.H = H) (hlow : n ≤ st.low) (hlow2 : st.low ≤ H.length) (hn : n ≤ H.length) (hp : H[p]? = some (.cells t.cells)) (hl : l.length ≤ 100000)
    (l0 : lookupE st.vE 0 = sv) (l9 : lookupE st.vE 9 = .ptr p 0) (l23 : lookupE st.vE 23 = .bool true) (hO : OutAt n H (lookupE st.vE 7) l) :
    ∃ st', execL tab F31Pc st = some (.normal, st') ∧ n ≤ st'.H.length ∧ n ≤ st'.low ∧ OutAt n st'.H (lookupE st'.vE 7) (l ++ List.replicate (wid sizes t).toNat (rngV t.lo t.hi)) ∧ ∀ s, s ≠ 7 → lookupE st'.vE s = lookupE st.vE s := by
  have hpE : ∀ h : p < H.length, H[p]'h = .cells t.cells := fun h => by rw [List.getElem?_eq_getElem h] at hp; exact Option.some.inj hp
  have hb := wid_bound hok hgc
  obtain ⟨W, hW⟩ : ∃ W : Nat, wid sizes t = W := ⟨(wid sizes t).toNat, by omega⟩
  have c2 := wid_s (H := H) hs ht hok hgc
  have c3 := repeat_s (a := t.lo) (b := t.hi) (W := W) (by omega) (by omega) H
  unfold Ans at c2
  rw [hW] at c2 hb ⊢
  rw [Int.toNat_natCast]
  have hr : V.agg [V.int .i64 t.lo, V.int .i64 t.hi] = rngV t.lo t.hi := rfl
  have hri : isP (rngV t.lo t.hi) = true := rfl
  have hrc : cellsV (rngV t.lo t.hi) = [.int .i64 t.lo, .int .i64 t.hi] := rfl
  have hfr : ∀ (H : Heap) (low : Nat), freezeVs H low (List.replicate W (rngV t.lo t.hi)) = some (List.replicate W (rngV t.lo t.hi), H, low) := fun H low => freezeVs_isPs _ _ _ (isPs_rep _ _ _)
  have hco := cellsOk_rep W t.lo t.hi
  have hne : (List.replicate W (rngV t.lo t.hi)).isEmpty = false := by
    cases W with
    | zero => omega
    | succ W => rfl
  have hne' : ¬ W = 0 := by omega
  have hc1 : ¬ H.length + 1 ≤ H.length := by omega
  have htk : List.take W (List.replicate W (rngV t.lo t.hi)) = List.replicate W (rngV t.lo t.hi) := List.take_of_length_le (by simp)
  have hcap : W * 17 ≤ 1099511627776 := by omega
  rcases hO with ⟨rfl, hv⟩ | ⟨hlne, q, hnq, hv, hq⟩
  · refine ⟨_, by simp [F31Pc, callBody, zipE, execL_seq, execL_region, execL_cond, execL_skip, execL_ret, execL_exit, execL_block, execOps, wantedA, S_mv, S_pick, S_bin, S_un, S_call0, S_call1, S_extract, S_nilEq, S_load, S_alloc, Opd.ev, lookupE, lookE_setE, St.put, binA, unA, boolOf, freezeVs, freezeV, freeze1, isP, isPs, resultsA, resultA, finish, old, olds, flat, movedH_same, Nat.min_self, loadA, readCells, cellsV_int, l0, l9, l23, hv, h1, hp, hpE, S_fieldAddr, Tb.d3, Tb.len, Tb.c2, Tb.e2, S_lit, S_append, step, hr, hri, hrc, fillL, zeroElem, cellsOk, cellOk, slE_isP hs.sl, slE_isP ht.cols.sl, c2, c3, hc1, elems, get_off0, htk, hfr, hco, hne, hne', hcap, movedH, inOrder, touches, -List.take_replicate]; exact ⟨by decide, rfl⟩, ?_⟩
    refine ⟨by simp; omega, by simp; omega, .inr ⟨?_, H.length + 1, by omega, ?_, ?_⟩, fun s hs => by simp [lookE_setE, hs]⟩
    · intro e; rw [List.nil_append] at e; rw [e] at hne; cases hne
    · simp [lookE_setE]
    · simp only [List.nil_append]; rw [get_off]; rfl
  · have hqH : q < H.length := by
      rcases Nat.lt_or_ge q H.length with h | h
      · exact h
      · rw [List.getElem?_eq_none h] at hq; cases hq
    have hqA := fun t => get_app hq t
    have hcap2 : (l.length + W) * 17 ≤ 1099511627776 := by omega
    refine ⟨_, by simp [F31Pc, callBody, zipE, execL_seq, execL_region, execL_cond, execL_skip, execL_ret, execL_exit, execL_block, execOps, wantedA, S_mv, S_pick, S_bin, S_un, S_call0, S_call1, S_extract, S_nilEq, S_load, S_alloc, Opd.ev, lookupE, lookE_setE, St.put, binA, unA, boolOf, freezeVs, freezeV, freeze1, isP, isPs, resultsA, resultA, finish, old, olds, flat, movedH_same, Nat.min_self, loadA, readCells, cellsV_int, l0, l9, l23, hv, h1, hp, hpE, S_fieldAddr, Tb.d3, Tb.len, Tb.c2, Tb.e2, S_lit, S_append, step, hr, hri, hrc, fillL, zeroElem, cellsOk, cellOk, slE_isP hs.sl, slE_isP ht.cols.sl, c2, c3, hc1, elems, get_off0, htk, hfr, hco, hne, hne', hcap2, hqA, movedH, inOrder, touches, -List.take_replicate]; exact ⟨⟨by decide, .inr (by decide)⟩, rfl⟩, ?_⟩
    refine ⟨by simp; omega, by simp; omega, .inr ⟨by simp [hlne], q, hnq, ?_, ?_⟩, fun s hs => by simp [lookE_setE, hs]⟩
    · simp [lookE_setE]
    · simp only []; rw [List.getElem?_set_self (by simp; omega)]

set_option maxHeartbeats 1000000 in
theorem rg_loop {sizes : List Int} {sv tv : V} {ts : List Tb} {n : Nat} {strict : Bool} (hs : VI sv sizes) (ht : VT tv ts) (hV : Valid sizes ts) {st : St} (hH : n ≤ st.H.length) (hlow : n ≤ st.low) (hlow2 : st.low ≤ st.H.length)
    (l0 : lookupE st.vE 0 = sv) (l2 : lookupE st.vE 2 = .bool strict) (l7 : lookupE st.vE 7 = .nil0) (l14 : lookupE st.vE 14 = tv) (l15 : lookupE st.vE 15 = .int .i64 ts.length) (l16 : lookupE st.vE 16 = .int .i64 0) :
    ∃ st', execL tab (.loop (rangeBody 17 15 16 34 1 0 F31L0)) st = some (.exit 0, st') ∧ n ≤ st'.low ∧ n ≤ st'.H.length ∧ OutAt n st'.H (lookupE st'.vE 7) (rngs strict sizes ts) := by
  have key := range_loop (tab := tab) (b := 17) (n := 15) (i := 16) (t := 34) (blk := 1) (ex := 0) (body := F31L0)
    (I := fun k st => n ≤ st.H.length ∧ n ≤ st.low ∧ st.low ≤ st.H.length ∧ lookupE st.vE 0 = sv ∧ lookupE st.vE 2 = .bool strict ∧ lookupE st.vE 14 = tv ∧ lookupE st.vE 16 = .int .i64 k ∧ lookupE st.vE 15 = .int .i64 ts.length ∧ OutAt n st.H (lookupE st.vE 7) (rngs strict sizes (ts.take k)))
    (Q := fun x st' => x = .exit 0 ∧ n ≤ st'.low ∧ n ≤ st'.H.length ∧ OutAt n st'.H (lookupE st'.vE 7) (rngs strict sizes ts))
    (N := ts.length) ht.lt (by decide) (by decide)
    (fun k st h => ⟨h.2.2.2.2.2.2.1, h.2.2.2.2.2.2.2.1, h.2.2.1⟩)
    (by
      rintro k st hk ⟨q1, q2, q3, q4, q5, q6, q7, q8, q9⟩
      obtain ⟨t, het⟩ : ∃ t, ts[k]? = some t := ⟨_, List.getElem?_eq_getElem hk⟩
      have hto := ht.ok t (List.mem_of_getElem? het)
      have hg := ht.get het
      have hgc := hV.good het
      obtain ⟨s1, a1, a2, a3, a4, a5⟩ := rg_a (n := n) (H := st.H) (st := { st with tE := [], vE := setE st.vE 17 (.bool true) }) ht.sl hg hto rfl q2 q1 (by simp [lookE_setE, q6]) (by simp [lookE_setE, q7])
      have alow := execL_low a1 q3
      have hp1 : s1.H[st.H.length]? = some (.cells t.cells) := by rw [a2]; simp
      have hn1 : n ≤ s1.H.length := by rw [a2]; simp; omega
      have hlen1 : s1.H.length = st.H.length + 1 := by rw [a2]; simp
      have alow' : s1.low ≤ st.low := alow
      obtain ⟨s2, b1, b2, b3, b4, b5⟩ := rg_b (n := n) (strict := strict) hto rfl a3 hn1 hp1 (by rw [a5 2 (by decide)]; simp [lookE_setE, q5]) a4
      have blow := execL_low b1 (by omega)
      have hO2 : OutAt n s2.H (lookupE s2.vE 7) (rngs strict sizes (ts.take k)) := by
        rw [b5 7 (by decide), a5 7 (by decide), b2, a2]
        have : lookupE (setE st.vE 17 (.bool true)) 7 = lookupE st.vE 7 := by simp [lookE_setE]
        rw [this]
        exact q9.app _
      have hlenr : (rngs strict sizes (ts.take k)).length ≤ 100000 := by
        have h1 := rngs_len hV strict k
        have h2 := hV.sum_le strict k
        have h3 := hV.sum_all strict
        omega
      cases hb : (strictB t == strict) with
      | true =>
        obtain ⟨s3, c1, c2, c3, c4, c5⟩ := rg_c (n := n) hs hto hV.ok hgc b2 b3 (by omega) hn1 hp1 hlenr (by rw [b5 0 (by decide), a5 0 (by decide)]; simp [lookE_setE, q4]) (by rw [b5 9 (by decide)]; exact a4) (by rw [b4, hb]) (by rw [← b2]; exact hO2)
        have clow := execL_low c1 (by rw [b2]; omega)
        have cfr := execL_len c1 (by rw [b2]; omega)
        refine ⟨.normal, s3, ?_, ?_⟩
        · rw [F31L0_parts, execL_seq, a1]
          simp only []
          rw [execL_seq, b1]
          exact c1
        · simp only [true_or, if_true]
          refine ⟨?_, by rw [b2] at cfr; omega, c2, c3, by show s3.low ≤ s3.H.length; rw [b2] at cfr; omega, ?_, ?_, ?_, ?_, ?_, ?_⟩
          · rw [c5 16 (by decide), b5 16 (by decide), a5 16 (by decide)]; simp [lookE_setE, q7]
          · simp only [lookE_setE]; rw [c5 0 (by decide), b5 0 (by decide), a5 0 (by decide)]; simp [lookE_setE, q4]
          · simp only [lookE_setE]; rw [c5 2 (by decide), b5 2 (by decide), a5 2 (by decide)]; simp [lookE_setE, q5]
          · simp only [lookE_setE]; rw [c5 14 (by decide), b5 14 (by decide), a5 14 (by decide)]; simp [lookE_setE, q6]
          · simp [lookE_setE]
          · simp only [lookE_setE]; rw [c5 15 (by decide), b5 15 (by decide), a5 15 (by decide)]; simp [lookE_setE, q8]
          · rw [rngs_succ het, hb, if_pos rfl]
            have : lookupE (setE s3.vE 16 (.int .i64 ((k + 1 : Nat) : Int))) 7 = lookupE s3.vE 7 := by simp [lookE_setE]
            show OutAt n s3.H (lookupE (setE s3.vE 16 (.int .i64 ((k + 1 : Nat) : Int))) 7) _
            rw [this]; exact c4
      | false =>
        have hc : execL tab F31Pc s2 = some (.normal, s2) := by
          rw [F31Pc, execL_cond]
          simp [Opd.ev, b4, hb, execL_skip]
        refine ⟨.normal, s2, ?_, ?_⟩
        · rw [F31L0_parts, execL_seq, a1]
          simp only []
          rw [execL_seq, b1]
          exact hc
        · simp only [true_or, if_true]
          refine ⟨?_, by rw [b2]; omega, by rw [b2]; exact hn1, b3, by show s2.low ≤ s2.H.length; rw [b2]; omega, ?_, ?_, ?_, ?_, ?_, ?_⟩
          · rw [b5 16 (by decide), a5 16 (by decide)]; simp [lookE_setE, q7]
          · simp only [lookE_setE]; rw [b5 0 (by decide), a5 0 (by decide)]; simp [lookE_setE, q4]
          · simp only [lookE_setE]; rw [b5 2 (by decide), a5 2 (by decide)]; simp [lookE_setE, q5]
          · simp only [lookE_setE]; rw [b5 14 (by decide), a5 14 (by decide)]; simp [lookE_setE, q6]
          · simp [lookE_setE]
          · simp only [lookE_setE]; rw [b5 15 (by decide), a5 15 (by decide)]; simp [lookE_setE, q8]
          · rw [rngs_succ het, hb]
            have : lookupE (setE s2.vE 16 (.int .i64 ((k + 1 : Nat) : Int))) 7 = lookupE s2.vE 7 := by simp [lookE_setE]
            show OutAt n s2.H (lookupE (setE s2.vE 16 (.int .i64 ((k + 1 : Nat) : Int))) 7) _
            rw [this]; simpa using hO2)
    (by
      rintro st ⟨q1, q2, q3, q4, q5, q6, q7, q8, q9⟩
      rw [List.take_length] at q9
      refine ⟨rfl, q2, q1, ?_⟩
      have : lookupE (setE st.vE 17 (.bool false)) 7 = lookupE st.vE 7 := by simp [lookE_setE]
      show OutAt n st.H (lookupE (setE st.vE 17 (.bool false)) 7) _
      rw [this]; exact q9)
  obtain ⟨x, st', h1, rfl, h2⟩ := key ts.length 0 st (by omega) ⟨hH, hlow, hlow2, l0, l2, l14, l16, l15, .inl ⟨by simp [rngs], l7⟩⟩
  exact ⟨st', h1, h2⟩

/-- What cells.Ranges returns. -/
def rngsV (l : List V) : V := if l = [] then .nil0 else .list 2 l
def rangesR (strict : Bool) (sizes : List Int) (ts : List Tb) : List V := if validB sizes ts then rngs strict sizes ts else []

set_option maxHeartbeats 2000000 in
theorem ranges_s {sizes : List Int} {sv tv : V} {ts : List Tb} {strict : Bool} (hs : VI sv sizes) (ht : VT tv ts) (H : Heap) : Ans (.fn 31 [] []) [sv, tv, .bool strict] H (rngsV (rangesR strict sizes ts)) := by
  have hv := valid_s hs ht H
  unfold Ans at *
  rw [callL_fn, show tab 31 = some (.code F31) from rfl]
  unfold rangesR
  cases hV : validB sizes ts with
  | false =>
    rw [hV] at hv
    simp [F31, callBody, zipE, execL_seq, execL_region, execL_cond, execL_skip, execL_ret, execL_exit, execL_block, execOps, wantedA, S_mv, S_pick, S_bin, S_un, S_call0, S_call1, S_extract, S_nilEq, S_load, S_alloc, Opd.ev, lookupE, setE, St.put, binA, unA, boolOf, freezeVs, freezeV, freeze1, isP, isPs, resultsA, resultA, finish, old, olds, flat, movedH_same, Nat.min_self, loadA, readCells, cellsV_int, slE_isP hs.sl, slE_isP ht.sl, hv, rngsV]
  | true =>
    rw [hV] at hv
    have hVd := valid_iff.1 hV
    obtain ⟨st', r1, r2, r3, r4⟩ := rg_loop (n := H.length) (strict := strict) hs ht hVd
      (st := { tE := [], vE := [(0, sv), (1, tv), (2, .bool strict), (6, .nil0), (13, .bool false), (7, .nil0), (14, tv), (15, .int .i64 ts.length), (16, .int .i64 0)], H := H, low := H.length }) (Nat.le_refl _) (Nat.le_refl _) (Nat.le_refl _) rfl rfl rfl rfl rfl rfl
    have hip := rngs_isPs strict sizes ts
    have hmin2 : H.length ≤ min st'.low st'.H.length := by omega
    generalize rngs strict sizes ts = l at *
    rcases r4 with ⟨e1, e2⟩ | ⟨e1, q, e2, e3, e4⟩
    · simp [F31, callBody, zipE, execL_seq, execL_region, execL_cond, execL_skip, execL_ret, execL_exit, execL_block, execOps, wantedA, S_mv, S_pick, S_bin, S_un, S_call0, S_call1, S_extract, S_nilEq, S_load, S_alloc, Opd.ev, lookupE, setE, St.put, binA, unA, boolOf, freezeVs, freezeV, freeze1, isP, isPs, resultsA, resultA, finish, old, olds, flat, movedH_same, Nat.min_self, loadA, readCells, cellsV_int, slE_isP hs.sl, slE_isP ht.sl, hv, S_len 6, ht.sl, ht.len, r1, r2, e1, e2, rngsV, lookE_setE, hmin2]
    · have e4E : ∀ h : q < st'.H.length, st'.H[q]'h = .row 2 l false := fun h => by rw [List.getElem?_eq_getElem h] at e4; exact Option.some.inj e4
      have htk : List.take l.length l = l := List.take_of_length_le (Nat.le_refl _)
      have hmin3 : H.length ≤ min (min st'.low st'.H.length) q := by omega
      simp [F31, callBody, zipE, execL_seq, execL_region, execL_cond, execL_skip, execL_ret, execL_exit, execL_block, execOps, wantedA, S_mv, S_pick, S_bin, S_un, S_call0, S_call1, S_extract, S_nilEq, S_load, S_alloc, Opd.ev, lookupE, setE, St.put, binA, unA, boolOf, freezeVs, freezeV, freeze1, isP, isPs, resultsA, resultA, finish, old, olds, flat, movedH_same, Nat.min_self, loadA, readCells, cellsV_int, slE_isP hs.sl, slE_isP ht.sl, hv, S_len 6, ht.sl, ht.len, r1, r2, e1, e2, e3, e4, e4E, hip, rngsV, lookE_setE, hmin2, hmin3]
      intro h; omega

def countR (strict : Bool) (sizes : List Int) (ts : List Tb) : Int := if validB sizes ts then sumB strict sizes ts else 0

theorem count_s {sizes : List Int} {sv tv : V} {ts : List Tb} {strict : Bool} (hs : VI sv sizes) (ht : VT tv ts) (H : Heap) : Ans (.fn 16 [] []) [sv, tv, .bool strict] H (.int .i64 (countR strict sizes ts)) := by
  have hr := ranges_s (strict := strict) hs ht H
  have hsl : slE 2 (rngsV (rangesR strict sizes ts)) = true := by unfold rngsV; split <;> rfl
  have hel : ((el (rngsV (rangesR strict sizes ts))).length : Int) = countR strict sizes ts := by
    have h1 : (el (rngsV (rangesR strict sizes ts))).length = (rangesR strict sizes ts).length := by
      unfold rngsV; split
      · rename_i e; rw [e]; rfl
      · rfl
    rw [h1]
    unfold rangesR countR
    cases hV : validB sizes ts with
    | false => rfl
    | true =>
      have := rngs_len (valid_iff.1 hV) strict ts.length
      rw [List.take_length] at this
      exact this
  unfold Ans at *
  rw [callL_fn, show tab 16 = some (.code F16) from rfl]
  simp [F16, callBody, zipE, execL_seq, execL_region, execL_cond, execL_skip, execL_ret, execL_exit, execL_block, execOps, wantedA, S_mv, S_pick, S_bin, S_un, S_call0, S_call1, S_extract, S_nilEq, S_load, S_alloc, Opd.ev, lookupE, setE, St.put, binA, unA, boolOf, freezeVs, freezeV, freeze1, isP, isPs, resultsA, resultA, finish, old, olds, flat, movedH_same, Nat.min_self, loadA, readCells, cellsV_int, slE_isP hs.sl, slE_isP ht.sl, hr, S_len 2, hsl, hel]
end Go.Abs.T09
/- The reference's Few. -/
namespace Go.Abs.T09
open Go Go.Abs

def fewT (t : Tb) : Bool := decide (t.name.length ≤ 40) && decide (t.cl.length ≤ 12)
def fewB (sizes : List Int) (ts : List Tb) : Bool := ts.all fewT && (decide (sizes.length ≤ 12) && decide (ts.length ≤ 20))

theorem cellsV_tb (t : Tb) : cellsV t.v = t.cells := rfl

set_option maxHeartbeats 1000000 in
theorem few_loop {sizes : List Int} {sv tv : V} {ts : List Tb} {H : Heap} (ht : VT tv ts) :
    ∀ (r : List Tb) (k : Nat) (st : St), ts.drop k = r → k ≤ ts.length → st.H = H → st.low = H.length → lookupE st.vE 0 = sv → lookupE st.vE 1 = tv → lookupE st.vE 5 = .int .i64 k →
      ∃ x st', execL tab (.loop F9L0) st = some (x, st') ∧ st'.H = H ∧ st'.low = H.length ∧ ((x = .exit 0 ∧ r.all fewT = true ∧ lookupE st'.vE 0 = sv ∧ lookupE st'.vE 1 = tv) ∨ (x = .ret ∧ r.all fewT = false ∧ lookupE st'.vE 4 = .bool false))
  | [], k, st, hr, hk, h1, h2, h3, h4, h5 => by
    have hle := drop_nil hr
    have hn : ¬ (k : Int) < (ts.length : Int) := by omega
    rw [execL_loop]
    refine ⟨.exit 0, _, by simp [F9L0, callBody, zipE, execL_seq, execL_region, execL_cond, execL_skip, execL_ret, execL_exit, execL_block, execOps, wantedA, S_mv, S_pick, S_bin, S_un, S_call0, S_call1, S_extract, S_nilEq, S_load, S_alloc, Opd.ev, lookupE, lookE_setE, St.put, binA, unA, boolOf, freezeVs, freezeV, freeze1, isP, isPs, resultsA, resultA, finish, old, olds, flat, movedH_same, Nat.min_self, loadA, readCells, cellsV_int, S_len 6, ht.sl, ht.len, h1, h2, h3, h4, h5, hn]; rfl, ?_⟩
    simp [lookE_setE, h1, h2, h3, h4]
  | t :: r, k, st, hr, hk, h1, h2, h3, h4, h5 => by
    obtain ⟨g1, g2, g3⟩ := drop_cons hr
    have hto := ht.ok t (List.mem_of_getElem? g1)
    have hg := ht.get g1
    have hn : (k : Int) < (ts.length : Int) := by omega
    have hw : IntKind.i64.wrap ((k : Int) + 1) = ((k + 1 : Nat) : Int) := by have := ht.lt; rw [wrap_small] <;> omega
    have key : fewT t = true → ∃ st1, execL tab F9L0 st = some (.normal, st1) ∧ st1.H = H ∧ st1.low = H.length ∧ lookupE st1.vE 0 = sv ∧ lookupE st1.vE 1 = tv ∧ lookupE st1.vE 5 = .int .i64 ((k + 1 : Nat) : Int) := fun hf => by
      simp only [fewT, Bool.and_eq_true, decide_eq_true_eq] at hf
      have a1 : ¬ (40 : Int) < (t.name.length : Int) := by omega
      have a2 : ¬ (12 : Int) < (t.cl.length : Int) := by omega
      refine ⟨_, by simp [F9L0, callBody, zipE, execL_seq, execL_region, execL_cond, execL_skip, execL_ret, execL_exit, execL_block, execOps, wantedA, S_mv, S_pick, S_bin, S_un, S_call0, S_call1, S_extract, S_nilEq, S_load, S_alloc, Opd.ev, lookupE, lookE_setE, St.put, binA, unA, boolOf, freezeVs, freezeV, freeze1, isP, isPs, resultsA, resultA, finish, old, olds, flat, movedH_same, Nat.min_self, loadA, readCells, cellsV_int, S_len 6, S_len 1, S_len0, S_index, S_fieldAddr, cellsV_tb, Tb.c0, Tb.e0, Tb.c2, Tb.e2, Tb.len, hto.cols.sl, hto.cols.len, ht.sl, ht.len, hg, h1, h2, h3, h4, h5, hn, a1, a2, hw]; rfl, ?_⟩
      simp [lookE_setE, h1, h2, h3, h4]
    rw [execL_loop]
    by_cases hf : fewT t = true
    · obtain ⟨st1, q1, q2, q3, q4, q5, q6⟩ := key hf
      obtain ⟨x, st', r1, r2, r3, r4⟩ := few_loop (sizes := sizes) ht r (k + 1) st1 g2 (by omega) q2 q3 q4 q5 q6
      refine ⟨x, st', by rw [q1]; exact r1, r2, r3, ?_⟩
      rw [List.all_cons, hf, Bool.true_and]; exact r4
    · have hf' : fewT t = false := by simpa using hf
      have ha : (t :: r).all fewT = false := by rw [List.all_cons, hf', Bool.false_and]
      by_cases b1 : (40 : Int) < (t.name.length : Int)
      · refine ⟨.ret, _, by simp [F9L0, callBody, zipE, execL_seq, execL_region, execL_cond, execL_skip, execL_ret, execL_exit, execL_block, execOps, wantedA, S_mv, S_pick, S_bin, S_un, S_call0, S_call1, S_extract, S_nilEq, S_load, S_alloc, Opd.ev, lookupE, lookE_setE, St.put, binA, unA, boolOf, freezeVs, freezeV, freeze1, isP, isPs, resultsA, resultA, finish, old, olds, flat, movedH_same, Nat.min_self, loadA, readCells, cellsV_int, S_len 6, S_len 1, S_len0, S_index, S_fieldAddr, cellsV_tb, Tb.c0, Tb.e0, Tb.c2, Tb.e2, Tb.len, hto.cols.sl, hto.cols.len, ht.sl, ht.len, hg, h1, h2, h3, h4, h5, hn, b1]; rfl, ?_⟩
        exact ⟨by simp, by simp, .inr ⟨rfl, ha, by simp [lookE_setE]⟩⟩
      · have b2 : (12 : Int) < (t.cl.length : Int) := by
          simp only [fewT, Bool.and_eq_false_iff, decide_eq_false_iff_not] at hf'
          rcases hf' with h | h <;> omega
        refine ⟨.ret, _, by simp [F9L0, callBody, zipE, execL_seq, execL_region, execL_cond, execL_skip, execL_ret, execL_exit, execL_block, execOps, wantedA, S_mv, S_pick, S_bin, S_un, S_call0, S_call1, S_extract, S_nilEq, S_load, S_alloc, Opd.ev, lookupE, lookE_setE, St.put, binA, unA, boolOf, freezeVs, freezeV, freeze1, isP, isPs, resultsA, resultA, finish, old, olds, flat, movedH_same, Nat.min_self, loadA, readCells, cellsV_int, S_len 6, S_len 1, S_len0, S_index, S_fieldAddr, cellsV_tb, Tb.c0, Tb.e0, Tb.c2, Tb.e2, Tb.len, hto.cols.sl, hto.cols.len, ht.sl, ht.len, hg, h1, h2, h3, h4, h5, hn, b1, b2]; rfl, ?_⟩
        exact ⟨by simp, by simp, .inr ⟨rfl, ha, by simp [lookE_setE]⟩⟩

theorem few_s {sizes : List Int} {sv tv : V} {ts : List Tb} (hs : VI sv sizes) (ht : VT tv ts) (H : Heap) : Ans (.fn 9 [] []) [sv, tv] H (.bool (fewB sizes ts)) := by
  unfold Ans
  rw [callL_fn, show tab 9 = some (.code F9) from rfl]
  obtain ⟨x, st', r1, r2, r3, r4⟩ := few_loop (sizes := sizes) (sv := sv) (H := H) ht ts 0 { tE := [], vE := [(0, sv), (1, tv), (4, .bool false), (5, .int .i64 0)], H := H, low := H.length } rfl (Nat.zero_le _) rfl rfl rfl rfl rfl
  have e1 : decide ((sizes.length : Int) ≤ 12) = decide (sizes.length ≤ 12) := by rw [decide_eq_decide]; omega
  have e2 : decide ((ts.length : Int) ≤ 20) = decide (ts.length ≤ 20) := by rw [decide_eq_decide]; omega
  unfold fewB
  rcases r4 with ⟨rfl, r4, r5, r6⟩ | ⟨rfl, r4, r5⟩
  · rw [r4]
    cases a1 : decide (sizes.length ≤ 12) <;> cases a2 : decide (ts.length ≤ 20) <;> simp [F9, callBody, zipE, execL_seq, execL_region, execL_cond, execL_skip, execL_ret, execL_exit, execL_block, execOps, wantedA, S_mv, S_pick, S_bin, S_un, S_call0, S_call1, S_extract, S_nilEq, S_load, S_alloc, Opd.ev, lookupE, setE, St.put, binA, unA, boolOf, freezeVs, freezeV, freeze1, isP, isPs, resultsA, resultA, finish, old, olds, flat, movedH_same, Nat.min_self, loadA, readCells, cellsV_int, r1, r2, r3, r5, r6, lookE_setE, S_len 1, S_len 6, hs.sl, hs.len, ht.sl, ht.len, e1, e2, a1, a2]
  · rw [r4]
    simp [F9, callBody, zipE, execL_seq, execL_region, execL_cond, execL_skip, execL_ret, execL_exit, execL_block, execOps, wantedA, S_mv, S_pick, S_bin, S_un, S_call0, S_call1, S_extract, S_nilEq, S_load, S_alloc, Opd.ev, lookupE, setE, St.put, binA, unA, boolOf, freezeVs, freezeV, freeze1, isP, isPs, resultsA, resultA, finish, old, olds, flat, movedH_same, Nat.min_self, loadA, readCells, cellsV_int, r1, r2, r3, r5, lookE_setE]
end Go.Abs.T09
/- The odometer of cells.Tuples, above any heap. -/
namespace Go.Abs.T09
open Go Go.Abs

set_option maxHeartbeats 1000000 in
theorem inc_loop_g {sv cv : V} {sizes cols : List Int} (hs : VI sv sizes) (hc : VI cv cols) (hin : ∀ c ∈ cols, 0 ≤ c ∧ c < sizes.length) {n : Nat} (hn : cols.length = n) {o0 o3 : AObj} {B H : Heap} :
    ∀ (i : Nat) (t : List Int) (st : St), t.length = n → i ≤ n → (∀ x ∈ t, -1000 ≤ x ∧ x ≤ 1000) → st.H = H ++ o0 :: .cells [sv] :: .cells [cv] :: o3 :: rowI t :: B → st.low ≤ st.H.length ∧ H.length ≤ st.low →
      lookupE st.vE 4 = .sref (H.length + 4) 1 0 n n → lookupE st.vE 5 = .int .i64 ((i : Int) - 1) → lookupE st.vE 2 = .ptr (H.length + 1) 0 → lookupE st.vE 1 = .ptr (H.length + 2) 0 →
      ∃ st', execL tab (.loop F62L0) st = some (.exit 2, st') ∧ st'.H = H ++ o0 :: .cells [sv] :: .cells [cv] :: o3 :: rowI (incAt (dimsOf sizes cols) i t) :: B ∧ (st'.low ≤ st'.H.length ∧ H.length ≤ st'.low) ∧ st'.ro = st.ro ∧ ∀ s, s ≠ 5 → s ≠ 23 → s ≠ 43 → lookupE st'.vE s = lookupE st.vE s
  | 0, t, st, ht, hi, hx, h4, hl, l4, l5, l2, l1 => by
    rw [execL_loop]
    simp only [F62L0]
    refine ⟨_, by simp [callBody, zipE, execL_seq, execL_region, execL_cond, execL_skip, execL_ret, execL_exit, execL_block, execOps, wantedA, S_mv, S_pick, S_bin, S_un, S_call0, S_call1, S_extract, S_nilEq, S_load, S_alloc, Opd.ev, lookupE, lookE_setE, St.put, binA, unA, boolOf, freezeVs, freezeV, freeze1, isP, isPs, resultsA, resultA, finish, old, olds, flat, movedH_same, Nat.min_self, loadA, readCells, cellsV_int, l5]; rfl, ?_⟩
    simp only [incAt, lookE_setE]
    exact ⟨h4, by have := congrArg List.length h4; simp at this; omega, trivial, fun s a b c => by simp [b]⟩
  | i + 1, t, st, ht, hi, hx, h4, hl, l4, l5, l2, l1 => by
    have hit : i < t.length := by omega
    obtain ⟨x, hxi⟩ : ∃ x, t[i]? = some x := ⟨_, List.getElem?_eq_getElem hit⟩
    have hxb := hx x (List.mem_of_getElem? hxi)
    obtain ⟨c, hcc⟩ : ∃ c, cols[i]? = some c := ⟨_, List.getElem?_eq_getElem (by omega)⟩
    obtain ⟨c0, c1⟩ := hin c (List.mem_of_getElem? hcc)
    obtain ⟨d, hd⟩ : ∃ d, sizes[c.toNat]? = some d := ⟨_, List.getElem?_eq_getElem (by omega)⟩
    have hdim : (dimsOf sizes cols)[i]? = some d := by simp [dimsOf, hcc, hd]
    have hgc := hc.get hcc
    have hgd := hs.get hd
    have e5 : ((i + 1 : Nat) : Int) - 1 = (i : Int) := by omega
    rw [e5] at l5
    have hw : IntKind.i64.wrap (x + 1) = x + 1 := by rw [wrap_small] <;> omega
    have hcl := hc.lt
    have hw2 : IntKind.i64.wrap ((i : Int) - 1) = (i : Int) - 1 := by rw [wrap_small] <;> omega
    have hge : (0 : Int) ≤ (i : Int) := by omega
    have hin' : i < n := by omega
    have hgi : (t.map (V.int .i64))[i]? = some (.int .i64 x) := by simp [hxi]
    have hlen : (t.map (V.int .i64)).length = n := by simp [ht]
    have hset : ((t.map (V.int .i64)).set i (.int .i64 (x + 1)))[i]? = some (.int .i64 (x + 1)) := by simp [hit]
    rw [execL_loop]
    simp only [rowI] at h4
    generalize hds : t.map (V.int .i64) = ds at *
    have hgE : ∀ h : i < ds.length, ds[i]'h = .int .i64 x := fun h => by rw [List.getElem?_eq_getElem h] at hgi; exact Option.some.inj hgi
    by_cases hxd : x + 1 < d
    · refine ⟨_, by simp [F62L0, callBody, zipE, execL_seq, execL_region, execL_cond, execL_skip, execL_ret, execL_exit, execL_block, execOps, wantedA, S_mv, S_pick, S_bin, S_un, S_call0, S_call1, S_extract, S_nilEq, S_load, S_alloc, Opd.ev, lookupE, lookE_setE, St.put, binA, unA, boolOf, freezeVs, freezeV, freeze1, isP, isPs, resultsA, resultA, finish, old, olds, flat, movedH_same, Nat.min_self, loadA, readCells, cellsV_int, l5, l4, l2, l1, h4, S_index, S_indexR, isRow, hc.sl, hs.sl, hlen, hgi, hgE, hset, hw, S_store, storeA, putElem, plainCells, plainCell, hge, hgc, hgd, natOf_nonneg _ c0, hin', inOrder, hxd, movedH, get_off, get_off0, set_off, set_off0]; rfl, ?_⟩
      simp only [incAt, hxi, hdim, Option.getD_some, hxd, if_true, lookE_setE]
      refine ⟨by simp [rowI, List.map_set, hds], ⟨by first | (simp; omega) | omega, by first | omega | (simp; omega)⟩, trivial, fun s a b c => by simp [b, c]⟩
    · have hstep : ∃ st1, execL tab F62L0 st = some (.normal, st1) ∧ st1.H = H ++ o0 :: .cells [sv] :: .cells [cv] :: o3 :: rowI (t.set i 0) :: B ∧ (st1.low ≤ st1.H.length ∧ H.length ≤ st1.low) ∧ st1.ro = st.ro ∧ lookupE st1.vE 5 = .int .i64 ((i : Int) - 1) ∧
          ∀ s, s ≠ 5 → s ≠ 23 → s ≠ 43 → lookupE st1.vE s = lookupE st.vE s := by
        refine ⟨_, by simp [F62L0, callBody, zipE, execL_seq, execL_region, execL_cond, execL_skip, execL_ret, execL_exit, execL_block, execOps, wantedA, S_mv, S_pick, S_bin, S_un, S_call0, S_call1, S_extract, S_nilEq, S_load, S_alloc, Opd.ev, lookupE, lookE_setE, St.put, binA, unA, boolOf, freezeVs, freezeV, freeze1, isP, isPs, resultsA, resultA, finish, old, olds, flat, movedH_same, Nat.min_self, loadA, readCells, cellsV_int, l5, l4, l2, l1, h4, S_index, S_indexR, isRow, hc.sl, hs.sl, hlen, hgi, hgE, hset, hw, hw2, S_store, storeA, putElem, plainCells, plainCell, hge, hgc, hgd, natOf_nonneg _ c0, hin', inOrder, hxd, movedH, get_off, get_off0, set_off, set_off0]; rfl, ?_⟩
        simp only [lookE_setE]
        refine ⟨by simp [rowI, List.map_set, hds], ⟨by first | (simp; omega) | omega, by first | omega | (simp; omega)⟩, trivial, by simp, fun s a b c => by simp [a, b, c]⟩
      obtain ⟨st1, q1, q2, q3, q4, q5, q6⟩ := hstep
      rw [q1]
      obtain ⟨st', r1, r2, r3, r4, r5⟩ := inc_loop_g hs hc hin hn i (t.set i 0) st1 (by simp [ht]) (by omega) (fun y hy => by
          rcases List.mem_or_eq_of_mem_set hy with h | rfl
          · exact hx y h
          · omega) q2 q3 (by rw [q6 4 (by decide) (by decide) (by decide)]; exact l4) q5 (by rw [q6 2 (by decide) (by decide) (by decide)]; exact l2) (by rw [q6 1 (by decide) (by decide) (by decide)]; exact l1)
      refine ⟨st', r1, ?_, r3, r4.trans q4, fun s a b c => (r5 s a b c).trans (q6 s a b c)⟩
      rw [r2]
      simp only [incAt, hxi, hdim, Option.getD_some, if_neg hxd]
end Go.Abs.T09
