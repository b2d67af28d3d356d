/- CellsReads: a round over a cell, whole. -/
import Derived.Test.YteiajndkjnlmiaaGreatDoorP09
import Derived.Test.YteiajndkjnlmiaaGreatDoorP07
set_option linter.unusedVariables false
set_option linter.unusedSimpArgs false
namespace Go.Abs.T09
open Go Go.Abs

theorem fmt_ne (name : List UInt8) (ds : List Int) : fmt name ds ≠ [] := by simp [fmt]

section
variable {sizes : List Int} {sv tv : V} {ts : List Tb} {b : Bool} {k i : Nat} {t : Tb} {tu : List Int} {n : Int} {st : St}

/-- What a round keeps. -/
def keepR (e e' : Env) : Prop := ∀ s, s = 40 ∨ s = 41 ∨ s = 31 ∨ s = 32 ∨ s = 33 → lookupE e' s = lookupE e s
theorem keepR.trans {a b c : Env} (h1 : keepR a b) (h2 : keepR b c) : keepR a c := fun s hs => (h2 s hs).trans (h1 s hs)

set_option maxHeartbeats 2000000 in
theorem cell_round (hs : VI sv sizes) (ht : VT tv ts) (hV : Valid sizes ts) (hk : (k : Int) < sumB b sizes ts) (hn0 : 0 ≤ n) (hn1 : n < 256)
    (h1 : st.H = [.map (mapS (seenL sizes ts b k))]) (h2 : st.low = 0) (w : RV sv tv n b st.vE) (l41 : lookupE st.vE 41 = .int .i64 k) :
    ∃ st', execL tab F5L1 st = some (.normal, st') ∧ st'.H = [.map (mapS (seenL sizes ts b (k + 1)))] ∧ st'.low = 0 ∧ RV sv tv n b st'.vE ∧ keepR st.vE st'.vE := by
  obtain ⟨i, t, tu, C⟩ := hV.cellAt (b := b) (c := k) (by omega) hk
  have hun := hV.unseen hk
  have hsum := hV.sum_all b
  have hsucc := seenL_succ sizes ts b k
  have hfind := find_mapS (seenL sizes ts b k) (fmtOf sizes ts b k)
  rw [hun] at hfind
  simp only [Bool.false_eq_true, if_false] at hfind
  have hmap := mapS_snoc (seenL sizes ts b k) (fmtOf sizes ts b k)
  rw [← hsucc] at hmap
  rw [hmap]
  generalize hL : mapS (seenL sizes ts b k) = L at *
  rw [C.txt] at hfind ⊢
  clear hmap hsucc hun
  have hsp := slE_isP hs.sl
  have htp := slE_isP ht.sl
  have hname : t.name.length ≤ 16 := by
    obtain ⟨_, _, _, _, _, _, h⟩ := name_parts C.nam
    exact h
  have hfl := fmt_len t.name tu
  have htul := C.len
  have hFmt := format_s (H := [.map L]) (strict := b) hs ht (by omega) C.tup C.get C.len C.in6 (by omega)
  unfold Ans at hFmt
  have hfne := fmt_ne t.name tu
  have hlex := lex_fmt C.nam C.in6
  obtain ⟨hsep, hsl4⟩ := blank_sep n
  have hlex2 := lex_join hsep C.nam C.in6
  have hjl := cws_join_len (ds := tu) hname hsl4 C.len
  have hdl := dl_length tu
  have hcl := cws_len t.name tu
  generalize hF : fmt t.name tu = F at *
  have hFe : (F == []) = false := by simp [hfne]
  -- a, b
  obtain ⟨s1, a1, a2, a3, a4, a5, a6⟩ : ∃ s1, execL tab F5Pa st = some (.normal, s1) ∧ s1.H = [.map L] ∧ s1.low = 0 ∧ RV sv tv n b s1.vE ∧ lookupE s1.vE 10 = .int .i64 k ∧ keepR st.vE s1.vE :=
    ⟨_, by simp [F5Pa, callBody, zipE, execL_seq, execL_region, execL_cond, execL_skip, execL_ret, execL_exit, execL_block, execOps, wantedA, S_mv, S_pick, S_bin, S_un, S_call0, S_call1, S_extract, S_nilEq, S_load, S_alloc, Opd.ev, lookupE, lookE_setE, St.put, binA, unA, boolOf, freezeVs, freezeV, freeze1, isP, isPs, resultsA, resultA, finish, old, olds, flat, movedH_same, Nat.min_self, loadA, readCells, cellsV_int, h1, h2, l41]; rfl, by simp [h1], by simp [h2], w.set (fun s hs => by rcases hs with rfl | rfl | rfl | rfl | rfl <;> simp [lookE_setE]), by simp [lookE_setE], fun s hs => by rcases hs with rfl | rfl | rfl | rfl | rfl <;> simp [lookE_setE]⟩
  obtain ⟨s2, b1, b2, b3, b4, b5, b6, b7⟩ : ∃ s2, execL tab F5Pb s1 = some (.normal, s2) ∧ s2.H = [.map L] ∧ s2.low = 0 ∧ RV sv tv n b s2.vE ∧ lookupE s2.vE 10 = .int .i64 k ∧ lookupE s2.vE 11 = .str F ∧ keepR s1.vE s2.vE :=
    ⟨_, by simp [F5Pb, callBody, zipE, execL_seq, execL_region, execL_cond, execL_skip, execL_ret, execL_exit, execL_block, execOps, wantedA, S_mv, S_pick, S_bin, S_un, S_call0, S_call1, S_extract, S_nilEq, S_load, S_alloc, Opd.ev, lookupE, lookE_setE, St.put, binA, unA, boolOf, freezeVs, freezeV, freeze1, isP, isPs, resultsA, resultA, finish, old, olds, flat, movedH_same, Nat.min_self, loadA, readCells, cellsV_int, a2, a3, a4.v0, a4.v1, a4.v9, a5, hsp, htp, hFmt]; rfl, by simp, by simp, a4.set (fun s hs => by rcases hs with rfl | rfl | rfl | rfl | rfl <;> simp [lookE_setE]), by simp [lookE_setE, a5], by simp [lookE_setE], fun s hs => by rcases hs with rfl | rfl | rfl | rfl | rfl <;> simp [lookE_setE]⟩
  obtain ⟨s3, c1, c2, c3, c4, c5, c6, c7⟩ : ∃ s3, execL tab F5Pc s2 = some (.normal, s3) ∧ s3.H = [.map L] ∧ s3.low = 0 ∧ RV sv tv n b s3.vE ∧ lookupE s3.vE 10 = .int .i64 k ∧ lookupE s3.vE 11 = .str F ∧ keepR s2.vE s3.vE :=
    ⟨_, by simp [F5Pc, callBody, zipE, execL_seq, execL_region, execL_cond, execL_skip, execL_ret, execL_exit, execL_block, execOps, wantedA, S_mv, S_pick, S_bin, S_un, S_call0, S_call1, S_extract, S_nilEq, S_load, S_alloc, Opd.ev, lookupE, lookE_setE, St.put, binA, unA, boolOf, freezeVs, freezeV, freeze1, isP, isPs, resultsA, resultA, finish, old, olds, flat, movedH_same, Nat.min_self, loadA, readCells, cellsV_int, b2, b3, b4.v7, b6, hFe, S_lookup, step, hfind]; rfl, by simp [b2], by simp [b3], b4.set (fun s hs => by rcases hs with rfl | rfl | rfl | rfl | rfl <;> simp [lookE_setE]), by simp [lookE_setE, b5], by simp [lookE_setE, b6], fun s hs => by rcases hs with rfl | rfl | rfl | rfl | rfl <;> simp [lookE_setE]⟩
  obtain ⟨s4, d1, d2, d3, d4, d5, d6, d7⟩ : ∃ s4, execL tab F5Pd s3 = some (.normal, s4) ∧ s4.H = [.map (setEnt 1 (.str F) (.bool true) L)] ∧ s4.low = 0 ∧ RV sv tv n b s4.vE ∧ lookupE s4.vE 10 = .int .i64 k ∧ lookupE s4.vE 11 = .str F ∧ keepR s3.vE s4.vE :=
    ⟨_, by simp [F5Pd, callBody, zipE, execL_seq, execL_region, execL_cond, execL_skip, execL_ret, execL_exit, execL_block, execOps, wantedA, S_mv, S_pick, S_bin, S_un, S_call0, S_call1, S_extract, S_nilEq, S_load, S_alloc, Opd.ev, lookupE, lookE_setE, St.put, binA, unA, boolOf, freezeVs, freezeV, freeze1, isP, isPs, resultsA, resultA, finish, old, olds, flat, movedH_same, Nat.min_self, loadA, readCells, cellsV_int, c2, c3, c4.v7, c6, S_mapUpd, step, isU, hfind]; rfl, by simp, by simp, c4.set (fun s hs => by rcases hs with rfl | rfl | rfl | rfl | rfl <;> simp [lookE_setE]), by simp [lookE_setE, c5], by simp [lookE_setE, c6], fun s hs => by rcases hs with rfl | rfl | rfl | rfl | rfl <;> simp [lookE_setE]⟩
  generalize hL2 : setEnt 1 (.str F) (.bool true) L = L2 at *
  -- between
  have hwr : IntKind.i64.wrap n = n := by rw [wrap_small] <;> omega
  have htm : n.tmod 4 = n % 4 := Int.tmod_eq_emod_of_nonneg hn0
  obtain ⟨s5, e1, e2, e3, e4, e5, e6, e7, e8⟩ : ∃ s5, execL tab F5Pe s4 = some (.normal, s5) ∧ s5.H = [.map L2] ∧ s5.low = 0 ∧ RV sv tv n b s5.vE ∧ lookupE s5.vE 10 = .int .i64 k ∧ lookupE s5.vE 11 = .str F ∧ lookupE s5.vE 12 = .str (blankOf n) ∧ keepR s4.vE s5.vE := by
    have hsl : ∀ xs, slE 1 (V.list 1 xs) = true := fun _ => rfl
    have hel : ∀ xs, el (V.list 1 xs) = xs := fun _ => rfl
    have h4 : n % 4 = 0 ∨ n % 4 = 1 ∨ n % 4 = 2 ∨ n % 4 = 3 := by omega
    have key : ∀ (r : Nat) (sp : List UInt8), n % 4 = (r : Int) → ([V.str [], .str [32], .str [10], .str [35, 32, 120, 10]] : List V)[r]? = some (.str sp) → blankOf n = sp → ∃ s5, execL tab F5Pe s4 = some (.normal, s5) ∧ s5.H = [.map L2] ∧ s5.low = 0 ∧ RV sv tv n b s5.vE ∧ lookupE s5.vE 10 = .int .i64 k ∧ lookupE s5.vE 11 = .str F ∧ lookupE s5.vE 12 = .str (blankOf n) ∧ keepR s4.vE s5.vE := by
      intro r sp hr hsp' hb
      rw [hb]
      exact ⟨_, by simp [F5Pe, callBody, zipE, execL_seq, execL_region, execL_cond, execL_skip, execL_ret, execL_exit, execL_block, execOps, wantedA, S_mv, S_pick, S_bin, S_un, S_call0, S_call1, S_extract, S_nilEq, S_load, S_alloc, Opd.ev, lookupE, lookE_setE, St.put, binA, unA, boolOf, freezeVs, freezeV, freeze1, isP, isPs, resultsA, resultA, finish, old, olds, flat, movedH_same, Nat.min_self, loadA, readCells, cellsV_int, d2, d3, d4.v2, S_lit, S_conv, step, fillL, zeroElem, cellsOk, cellOk, hwr, htm, hr, S_index, hsl, hel, hsp', cellsV_st]; rfl, by simp, by simp, d4.set (fun s hs => by rcases hs with rfl | rfl | rfl | rfl | rfl <;> simp [lookE_setE]), by simp [lookE_setE, d5], by simp [lookE_setE, d6], by simp [lookE_setE], fun s hs => by rcases hs with rfl | rfl | rfl | rfl | rfl <;> simp [lookE_setE]⟩
    rcases h4 with h4 | h4 | h4 | h4
    · exact key 0 [] h4 rfl (by simp [blankOf, h4])
    · exact key 1 [32] h4 rfl (by simp [blankOf, h4])
    · exact key 2 [10] h4 rfl (by simp [blankOf, h4])
    · exact key 3 [35, 32, 120, 10] h4 rfl (by simp [blankOf, h4])
  -- the two texts
  have hw := words_s (s := F) (ws := cws t.name tu) (by omega) hlex (by omega) [.map L2]
  have hcne : cws t.name tu ≠ [] := by simp [cws]
  rw [wordsV, if_neg hcne] at hw
  have hj := join_s (l := cws t.name tu) (sep := blankOf n) hcne (by omega) (by omega) [.map L2]
  unfold Ans at hw hj
  simp only [List.length_cons, List.length_nil] at hw hj
  have hip := isPs_strs (cws t.name tu)
  generalize hJ : Lib.join (cws t.name tu) (blankOf n) = J at *
  generalize hB : blankOf n = B at *
  generalize hCW : (cws t.name tu).map V.str = CW at *
  obtain ⟨s6, f1, f2, f3, f4, f5, f6, f7, f8, f9⟩ : ∃ s6, execL tab F5Pf s5 = some (.normal, s6) ∧ s6.H = [.map L2] ∧ s6.low = 0 ∧ RV sv tv n b s6.vE ∧ lookupE s6.vE 10 = .int .i64 k ∧ lookupE s6.vE 69 = .list 1 [.str F, .str J] ∧ lookupE s6.vE 70 = .int .i64 (2 : Nat) ∧ lookupE s6.vE 71 = .int .i64 (0 : Nat) ∧ keepR s5.vE s6.vE := by
    have hsl : ∀ xs, slE 1 (V.list 1 xs) = true := fun _ => rfl
    have hel : ∀ xs, el (V.list 1 xs) = xs := fun _ => rfl
    exact ⟨_, by simp [F5Pf, callBody, zipE, execL_seq, execL_region, execL_cond, execL_skip, execL_ret, execL_exit, execL_block, execOps, wantedA, S_mv, S_pick, S_bin, S_un, S_call0, S_call1, S_extract, S_nilEq, S_load, S_alloc, Opd.ev, lookupE, lookE_setE, St.put, binA, unA, boolOf, freezeVs, freezeV, freeze1, isP, isPs, resultsA, resultA, finish, old, olds, flat, movedH_same, Nat.min_self, loadA, readCells, cellsV_int, e2, e3, e6, e7, hw, hip, hj, S_lit, step, fillL, zeroElem, cellsV_st, cellsOk, cellOk, S_len 1, hsl, hel]; rfl, by simp, by simp, e4.set (fun s hs => by rcases hs with rfl | rfl | rfl | rfl | rfl <;> simp [lookE_setE]), by simp [lookE_setE, e5], by simp [lookE_setE], by simp [lookE_setE], by simp [lookE_setE], fun s hs => by rcases hs with rfl | rfl | rfl | rfl | rfl <;> simp [lookE_setE]⟩
  have key := range_loop (tab := tab) (b := 72) (n := 70) (i := 71) (t := 108) (blk := 5) (ex := 4) (body := F5L0)
    (I := fun j s => s.H = [.map L2] ∧ s.low = 0 ∧ RV sv tv n b s.vE ∧ lookupE s.vE 10 = .int .i64 k ∧ lookupE s.vE 69 = .list 1 [.str F, .str J] ∧ lookupE s.vE 70 = .int .i64 (2 : Nat) ∧ lookupE s.vE 71 = .int .i64 j ∧ keepR s6.vE s.vE)
    (Q := fun x s => x = .exit 4 ∧ s.H = [.map L2] ∧ s.low = 0 ∧ RV sv tv n b s.vE ∧ keepR s6.vE s.vE)
    (N := 2) (by decide) (by decide) (by decide)
    (fun j s h => ⟨h.2.2.2.2.2.2.1, h.2.2.2.2.2.1, by rw [h.2.1]; exact Nat.zero_le _⟩)
    (by
      rintro j s hj2 ⟨q1, q2, q3, q4, q5, q6, q7, q8⟩
      have hT : ∃ text, ([V.str F, .str J] : List V)[j]? = some (.str text) ∧ text.length ≤ 4096 ∧ Lex text (cws t.name tu) := by
        rcases (show j = 0 ∨ j = 1 by omega) with rfl | rfl
        · exact ⟨F, rfl, by omega, hlex⟩
        · exact ⟨J, rfl, by omega, hlex2⟩
      obtain ⟨text, t1, t2, t3⟩ := hT
      obtain ⟨s7, g1, g2, g3, g4, g5⟩ := rd_round (st := { s with tE := [], vE := setE s.vE 72 (.bool true) }) hs ht hV C t2 t3 t1 q1 q2 (q3.set (fun s hs => by rcases hs with rfl | rfl | rfl | rfl | rfl <;> simp [lookE_setE])) (by simp [lookE_setE, q4]) (by simp [lookE_setE, q5]) (by simp [lookE_setE, q7])
      simp only [lookE_setE] at g5
      refine ⟨.normal, s7, g1, ?_⟩
      simp only [true_or, if_true]
      refine ⟨by rw [g5 71 (by simp)]; simpa using q7, by rw [g3]; exact Nat.zero_le _, g2, g3, g4.set (fun s hs => by rcases hs with rfl | rfl | rfl | rfl | rfl <;> simp [lookE_setE]), by simp [lookE_setE, g5, q4], by simp [lookE_setE, g5, q5], by simp [lookE_setE, g5, q6], by simp [lookE_setE], fun x hx => ?_⟩
      have := q8 x hx
      rcases hx with rfl | rfl | rfl | rfl | rfl <;> simp [lookE_setE, g5, this])
    (by
      rintro s ⟨q1, q2, q3, q4, q5, q6, q7, q8⟩
      exact ⟨rfl, q1, q2, q3.set (fun s hs => by rcases hs with rfl | rfl | rfl | rfl | rfl <;> simp [lookE_setE]), fun x hx => by have := q8 x hx; rcases hx with rfl | rfl | rfl | rfl | rfl <;> simp [lookE_setE, this]⟩)
  obtain ⟨x, s8, k1, rfl, k2, k3, k4, k5⟩ := key 2 0 s6 (by omega) ⟨f2, f3, f4, f5, f6, f7, f8, fun _ _ => rfl⟩
  refine ⟨s8, ?_, k2, k3, k4, a6.trans (b7.trans (c7.trans (d7.trans (e8.trans (f9.trans k5)))))⟩
  rw [F5L1_parts, execL_seq, a1]; simp only []
  rw [execL_seq, b1]; simp only []
  rw [execL_seq, c1]; simp only []
  rw [execL_seq, d1]; simp only []
  rw [execL_seq, e1]; simp only []
  rw [execL_seq, f1]; simp only []
  rw [F5Pg, execL_block, k1]
  rfl
end
end Go.Abs.T09
/- CellsReads answers true. -/
namespace Go.Abs.T09
open Go Go.Abs

def F5Qa : ACode := .region [⟨some (35, false), .indexAddr 1 (.var 31) (.var 33), none⟩, ⟨some (36, false), .load none (.tmp 35), none⟩, ⟨some (9, true), .mv (.tmp 36), none⟩] none
def F5Qb : ACode := .region [⟨some (37, false), .mv (.var 0), none⟩, ⟨some (38, false), .mv (.var 1), none⟩, ⟨some (39, false), .mv (.var 9), none⟩, ⟨some (40, true), .call false (.func 16) [(.tmp 37), (.tmp 38), (.tmp 39)], none⟩, ⟨some (41, true), .mv (.const (.int .i64 0)), none⟩] none
def F5Qc : ACode := .block 2 (.loop (rangeBody 42 40 41 109 3 2 F5L1))
theorem F5L2_parts : F5L2 = .seq F5Qa (.seq F5Qb (F5Qc)) := rfl

section
variable {sizes : List Int} {sv tv : V} {ts : List Tb} {b : Bool} {n : Int} {st : St}

theorem cellsV_bl2 (b : Bool) : cellsV (.bool b) = [.bool b] := rfl

set_option maxHeartbeats 2000000 in
theorem strict_round {j : Nat} (hs : VI sv sizes) (ht : VT tv ts) (hV : Valid sizes ts) (hn0 : 0 ≤ n) (hn1 : n < 256) (hj : ([V.bool true, .bool false] : List V)[j]? = some (.bool b))
    (h1 : st.H = [.map (mapS (seenL sizes ts b 0))]) (h2 : st.low = 0) (l0 : lookupE st.vE 0 = sv) (l1 : lookupE st.vE 1 = tv) (l2 : lookupE st.vE 2 = .int .u8 n) (l7 : lookupE st.vE 7 = .map 0) (l31 : lookupE st.vE 31 = .list 1 [.bool true, .bool false]) (l32 : lookupE st.vE 32 = .int .i64 (2 : Nat)) (l33 : lookupE st.vE 33 = .int .i64 j) :
    ∃ st', execL tab F5L2 st = some (.normal, st') ∧ st'.H = [.map (mapS (seenL sizes ts b (sumB b sizes ts).toNat))] ∧ st'.low = 0 ∧ lookupE st'.vE 0 = sv ∧ lookupE st'.vE 1 = tv ∧ lookupE st'.vE 2 = .int .u8 n ∧ lookupE st'.vE 7 = .map 0 ∧ lookupE st'.vE 31 = .list 1 [.bool true, .bool false] ∧ lookupE st'.vE 32 = .int .i64 (2 : Nat) ∧ lookupE st'.vE 33 = .int .i64 j := by
  have hsp := slE_isP hs.sl
  have htp := slE_isP ht.sl
  have hsum := hV.sum_all b
  obtain ⟨N, hN⟩ : ∃ N : Nat, sumB b sizes ts = N := ⟨(sumB b sizes ts).toNat, by omega⟩
  have hc := count_s (strict := b) hs ht st.H
  rw [countR, valid_iff.2 hV, if_pos rfl, hN] at hc
  unfold Ans at hc
  have hsl : slE 1 (V.list 1 [V.bool true, .bool false]) = true := rfl
  have hel : el (V.list 1 [V.bool true, .bool false]) = [V.bool true, .bool false] := rfl
  obtain ⟨s1, a1, a2, a3, a4, a5, a6, a7⟩ : ∃ s1, execL tab F5Qa st = some (.normal, s1) ∧ s1.H = st.H ∧ s1.low = 0 ∧ RV sv tv n b s1.vE ∧ lookupE s1.vE 31 = .list 1 [.bool true, .bool false] ∧ lookupE s1.vE 32 = .int .i64 (2 : Nat) ∧ lookupE s1.vE 33 = .int .i64 j := by
    refine ⟨_, by simp [F5Qa, callBody, zipE, execL_seq, execL_region, execL_cond, execL_skip, execL_ret, execL_exit, execL_block, execOps, wantedA, S_mv, S_pick, S_bin, S_un, S_call0, S_call1, S_extract, S_nilEq, S_load, S_alloc, Opd.ev, lookupE, lookE_setE, St.put, binA, unA, boolOf, freezeVs, freezeV, freeze1, isP, isPs, resultsA, resultA, finish, old, olds, flat, movedH_same, Nat.min_self, loadA, readCells, cellsV_int, h2, l31, l33, S_index, hsl, hel, hj, cellsV_bl2]; rfl, ?_⟩
    exact ⟨by simp, by simp, ⟨by simp [lookE_setE, l0], by simp [lookE_setE, l1], by simp [lookE_setE, l2], by simp [lookE_setE, l7], by simp [lookE_setE]⟩, by simp [lookE_setE, l31], by simp [lookE_setE, l32], by simp [lookE_setE, l33]⟩
  obtain ⟨s2, b1, b2, b3, b4, b5, b6, b7, b8, b9⟩ : ∃ s2, execL tab F5Qb s1 = some (.normal, s2) ∧ s2.H = st.H ∧ s2.low = 0 ∧ RV sv tv n b s2.vE ∧ lookupE s2.vE 31 = .list 1 [.bool true, .bool false] ∧ lookupE s2.vE 32 = .int .i64 (2 : Nat) ∧ lookupE s2.vE 33 = .int .i64 j ∧ lookupE s2.vE 40 = .int .i64 N ∧ lookupE s2.vE 41 = .int .i64 (0 : Nat) :=
    ⟨_, by simp [F5Qb, callBody, zipE, execL_seq, execL_region, execL_cond, execL_skip, execL_ret, execL_exit, execL_block, execOps, wantedA, S_mv, S_pick, S_bin, S_un, S_call0, S_call1, S_extract, S_nilEq, S_load, S_alloc, Opd.ev, lookupE, lookE_setE, St.put, binA, unA, boolOf, freezeVs, freezeV, freeze1, isP, isPs, resultsA, resultA, finish, old, olds, flat, movedH_same, Nat.min_self, loadA, readCells, cellsV_int, a2, a3, a4.v0, a4.v1, a4.v9, hsp, htp, hc]; rfl, by simp, by simp, a4.set (fun s hs => by rcases hs with rfl | rfl | rfl | rfl | rfl <;> simp [lookE_setE]), by simp [lookE_setE, a5], by simp [lookE_setE, a6], by simp [lookE_setE, a7], by simp [lookE_setE], by simp [lookE_setE]⟩
  have key := range_loop (tab := tab) (b := 42) (n := 40) (i := 41) (t := 109) (blk := 3) (ex := 2) (body := F5L1)
    (I := fun k s => s.H = [.map (mapS (seenL sizes ts b k))] ∧ s.low = 0 ∧ RV sv tv n b s.vE ∧ lookupE s.vE 31 = .list 1 [.bool true, .bool false] ∧ lookupE s.vE 32 = .int .i64 (2 : Nat) ∧ lookupE s.vE 33 = .int .i64 j ∧ lookupE s.vE 40 = .int .i64 N ∧ lookupE s.vE 41 = .int .i64 k)
    (Q := fun x s => x = .exit 2 ∧ s.H = [.map (mapS (seenL sizes ts b N))] ∧ s.low = 0 ∧ RV sv tv n b s.vE ∧ lookupE s.vE 31 = .list 1 [.bool true, .bool false] ∧ lookupE s.vE 32 = .int .i64 (2 : Nat) ∧ lookupE s.vE 33 = .int .i64 j)
    (N := N) (by omega) (by decide) (by decide)
    (fun k s h => ⟨h.2.2.2.2.2.2.2, h.2.2.2.2.2.2.1, by rw [h.2.1]; exact Nat.zero_le _⟩)
    (by
      rintro k s hk ⟨q1, q2, q3, q4, q5, q6, q7, q8⟩
      obtain ⟨s3, c1, c2, c3, c4, c5⟩ := cell_round (st := { s with tE := [], vE := setE s.vE 42 (.bool true) }) (k := k) hs ht hV (by omega) hn0 hn1 q1 q2 (q3.set (fun s hs => by rcases hs with rfl | rfl | rfl | rfl | rfl <;> simp [lookE_setE])) (by simp [lookE_setE, q8])
      simp only [keepR, lookE_setE] at c5
      refine ⟨.normal, s3, c1, ?_⟩
      simp only [true_or, if_true]
      exact ⟨by rw [c5 41 (by simp)]; simpa using q8, by rw [c3]; exact Nat.zero_le _, c2, c3, c4.set (fun s hs => by rcases hs with rfl | rfl | rfl | rfl | rfl <;> simp [lookE_setE]), by simp [lookE_setE, c5, q4], by simp [lookE_setE, c5, q5], by simp [lookE_setE, c5, q6], by simp [lookE_setE, c5, q7], by simp [lookE_setE]⟩)
    (by
      rintro s ⟨q1, q2, q3, q4, q5, q6, q7, q8⟩
      exact ⟨rfl, q1, q2, q3.set (fun s hs => by rcases hs with rfl | rfl | rfl | rfl | rfl <;> simp [lookE_setE]), by simp [lookE_setE, q4], by simp [lookE_setE, q5], by simp [lookE_setE, q6]⟩)
  obtain ⟨x, s4, k1, rfl, k2, k3, k4, k5, k6, k7⟩ := key N 0 s2 (by omega) ⟨by rw [b2]; exact h1, b3, b4, b5, b6, b7, b8, b9⟩
  refine ⟨s4, ?_, by rw [k2, hN]; rfl, k3, k4.v0, k4.v1, k4.v2, k4.v7, k5, k6, k7⟩
  rw [F5L2_parts, execL_seq, a1]; simp only []
  rw [execL_seq, b1]; simp only []
  rw [F5Qc, execL_block, k1]
  rfl
end

set_option maxHeartbeats 2000000 in
theorem cellsReads_s {sv tv : V} {sizes : List Int} {ts : List Tb} {n : Int} (hs : VI sv sizes) (ht : VT tv ts) (hn0 : 0 ≤ n) (hn1 : n < 256) : callL tab (.fn 5 [] []) [sv, tv, .int .u8 n] [] = some (.bool true, [], 0) := by
  have haw := awake_s
  have hf := few_s hs ht []
  have hv := valid_s hs ht []
  unfold Ans at hf hv
  simp only [List.length_nil] at hf hv
  have hsp := slE_isP hs.sl
  have htp := slE_isP ht.sl
  rw [callL_fn, show tab 5 = some (.code F5) from rfl]
  cases hF : fewB sizes ts with
  | false =>
    rw [hF] at hf
    simp [F5, callBody, zipE, execL_seq, execL_region, execL_cond, execL_skip, execL_ret, execL_exit, execL_block, execOps, wantedA, S_mv, S_pick, S_bin, S_un, S_call0, S_call1, S_extract, S_nilEq, S_load, S_alloc, Opd.ev, lookupE, setE, St.put, binA, unA, boolOf, freezeVs, freezeV, freeze1, isP, isPs, resultsA, resultA, finish, old, olds, flat, movedH_same, Nat.min_self, loadA, readCells, cellsV_int, haw, hf, hsp, htp]
  | true =>
    rw [hF] at hf
    cases hV : validB sizes ts with
    | false =>
      rw [hV] at hv
      simp [F5, callBody, zipE, execL_seq, execL_region, execL_cond, execL_skip, execL_ret, execL_exit, execL_block, execOps, wantedA, S_mv, S_pick, S_bin, S_un, S_call0, S_call1, S_extract, S_nilEq, S_load, S_alloc, Opd.ev, lookupE, setE, St.put, binA, unA, boolOf, freezeVs, freezeV, freeze1, isP, isPs, resultsA, resultA, finish, old, olds, flat, movedH_same, Nat.min_self, loadA, readCells, cellsV_int, haw, hf, hv, hsp, htp]
    | true =>
      rw [hV] at hv
      have hVd := valid_iff.1 hV
      have key := range_loop (tab := tab) (b := 34) (n := 32) (i := 33) (t := 110) (blk := 1) (ex := 0) (body := F5L2)
        (I := fun k s => (k = 0 → s.H = [.map (mapS (seenL sizes ts true 0))]) ∧ (k = 1 → s.H = [.map (mapS (seenL sizes ts false 0))]) ∧ s.low = 0 ∧ lookupE s.vE 0 = sv ∧ lookupE s.vE 1 = tv ∧ lookupE s.vE 2 = .int .u8 n ∧ lookupE s.vE 7 = .map 0 ∧ lookupE s.vE 31 = .list 1 [.bool true, .bool false] ∧ lookupE s.vE 32 = .int .i64 (2 : Nat) ∧ lookupE s.vE 33 = .int .i64 k)
        (Q := fun x s => x = .exit 0 ∧ s.low = 0)
        (N := 2) (by decide) (by decide) (by decide)
        (fun k s h => ⟨h.2.2.2.2.2.2.2.2.2, h.2.2.2.2.2.2.2.2.1, by rw [h.2.2.1]; exact Nat.zero_le _⟩)
        (by
          rintro k s hk ⟨q1, q1', q2, q3, q4, q5, q6, q7, q8, q9⟩
          rcases (show k = 0 ∨ k = 1 by omega) with rfl | rfl
          · obtain ⟨s1, a1, a2, a3, a4, a5, a6, a7, a8, a9, a10⟩ := strict_round (b := true) (j := 0) (st := { s with tE := [], vE := setE s.vE 34 (.bool true) }) hs ht hVd hn0 hn1 rfl (q1 rfl) q2 (by simp [lookE_setE, q3]) (by simp [lookE_setE, q4]) (by simp [lookE_setE, q5]) (by simp [lookE_setE, q6]) (by simp [lookE_setE, q7]) (by simp [lookE_setE, q8]) (by simp [lookE_setE, q9])
            refine ⟨.normal, s1, a1, ?_⟩
            simp only [true_or, if_true]
            exact ⟨a10, by rw [a3]; exact Nat.zero_le _, fun h => (by cases h), fun _ => by rw [seenL_switch]; exact a2, a3, by simp [lookE_setE, a4], by simp [lookE_setE, a5], by simp [lookE_setE, a6], by simp [lookE_setE, a7], by simp [lookE_setE, a8], by simp [lookE_setE, a9], by simp [lookE_setE]⟩
          · obtain ⟨s1, a1, a2, a3, a4, a5, a6, a7, a8, a9, a10⟩ := strict_round (b := false) (j := 1) (st := { s with tE := [], vE := setE s.vE 34 (.bool true) }) hs ht hVd hn0 hn1 rfl (q1' rfl) q2 (by simp [lookE_setE, q3]) (by simp [lookE_setE, q4]) (by simp [lookE_setE, q5]) (by simp [lookE_setE, q6]) (by simp [lookE_setE, q7]) (by simp [lookE_setE, q8]) (by simp [lookE_setE, q9])
            refine ⟨.normal, s1, a1, ?_⟩
            simp only [true_or, if_true]
            exact ⟨a10, by rw [a3]; exact Nat.zero_le _, fun h => (by cases h), fun h => (by cases h), a3, by simp [lookE_setE, a4], by simp [lookE_setE, a5], by simp [lookE_setE, a6], by simp [lookE_setE, a7], by simp [lookE_setE, a8], by simp [lookE_setE, a9], by simp [lookE_setE]⟩)
        (by rintro s ⟨-, -, q2, -⟩; exact ⟨rfl, q2⟩)
      obtain ⟨x, st', k1, rfl, k2⟩ := key 2 0 { tE := [], vE := [(0, sv), (1, tv), (2, .int .u8 n), (6, .bool false), (19, .bool false), (29, .bool false), (7, .map 0), (31, .list 1 [.bool true, .bool false]), (32, .int .i64 2), (33, .int .i64 0)], H := [.map []], low := 0 } (by omega) ⟨fun _ => rfl, fun h => (by cases h), rfl, rfl, rfl, rfl, rfl, rfl, rfl, rfl⟩
      have hsl2 : slE 1 (V.list 1 [V.bool true, V.bool false]) = true := rfl
      have hel2 : el (V.list 1 [V.bool true, V.bool false]) = [V.bool true, V.bool false] := rfl
      simp [F5, callBody, zipE, execL_seq, execL_region, execL_cond, execL_skip, execL_ret, execL_exit, execL_block, execOps, wantedA, S_mv, S_pick, S_bin, S_un, S_call0, S_call1, S_extract, S_nilEq, S_load, S_alloc, Opd.ev, lookupE, setE, St.put, binA, unA, boolOf, freezeVs, freezeV, freeze1, isP, isPs, resultsA, resultA, finish, old, olds, flat, movedH_same, Nat.min_self, loadA, readCells, cellsV_int, haw, hf, hv, hsp, htp, S_mkMap, S_lit, step, fillL, zeroElem, cellsV_bl2, cellsOk, cellOk, S_len 1, hsl2, hel2, k1, k2, lookE_setE]
end Go.Abs.T09
