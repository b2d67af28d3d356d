/- CellsInverse: the loops. -/
import Derived.Test.YteiajndkjnlmiaaGreatDoorP08
set_option linter.unusedVariables false
set_option linter.unusedSimpArgs false
namespace Go.Abs.T09
open Go Go.Abs

theorem tupV_isP (l : List Int) : isP (tupV l) = true := by unfold tupV; split <;> rfl

def F4Pa : ACode := .region [⟨some (49, false), .mv (.var 47), none⟩, ⟨some (9, true), .mv (.tmp 49), none⟩] none
def F4Pb : ACode := .region [⟨some (51, false), .mv (.var 0), none⟩, ⟨some (52, false), .mv (.var 1), none⟩, ⟨some (53, false), .mv (.var 6), none⟩, ⟨some (54, false), .mv (.var 9), none⟩, ⟨some (55, false), .call false (.func 12) [(.tmp 51), (.tmp 52), (.tmp 53), (.tmp 54)], none⟩, ⟨some (50, false), .mv (.tmp 55), none⟩, ⟨some (56, false), .extract (.tmp 50) 0, none⟩, ⟨some (57, false), .extract (.tmp 50) 1, none⟩, ⟨some (58, false), .extract (.tmp 50) 2, none⟩, ⟨some (10, true), .mv (.tmp 56), none⟩, ⟨some (11, true), .mv (.tmp 57), none⟩, ⟨some (12, true), .mv (.tmp 58), none⟩] none
def F4Pc : ACode := .region [⟨some (60, false), .mv (.var 0), none⟩, ⟨some (61, false), .mv (.var 1), none⟩, ⟨some (62, false), .mv (.var 10), none⟩, ⟨some (63, false), .mv (.var 11), none⟩, ⟨some (64, false), .call false (.func 10) [(.tmp 60), (.tmp 61), (.tmp 62), (.tmp 63)], none⟩, ⟨some (59, false), .mv (.tmp 64), none⟩, ⟨some (65, false), .extract (.tmp 59) 0, none⟩, ⟨some (66, false), .extract (.tmp 59) 1, none⟩, ⟨some (13, true), .mv (.tmp 65), none⟩, ⟨some (14, true), .mv (.tmp 66), none⟩] none
def F4Pd : ACode := .region [⟨some (67, false), .mv (.var 12), none⟩, ⟨some (68, false), .un .not (.tmp 67), none⟩, ⟨some (69, false), .mv (.tmp 68), none⟩, ⟨some (70, false), .mv (.var 14), some ((.tmp 69), false)⟩, ⟨some (71, false), .bin .neq (.tmp 70) (.const (.int .i64 0)), some ((.tmp 69), false)⟩, ⟨some (72, false), .pick (.tmp 69) (.const (.bool true)) (.tmp 71), none⟩, ⟨some (73, false), .mv (.tmp 72), none⟩, ⟨some (74, false), .mv (.var 13), some ((.tmp 73), false)⟩, ⟨some (75, false), .mv (.var 9), some ((.tmp 73), false)⟩, ⟨some (76, false), .bin .neq (.tmp 74) (.tmp 75), some ((.tmp 73), false)⟩, ⟨some (77, true), .pick (.tmp 73) (.const (.bool true)) (.tmp 76), none⟩] none
def F4Pe : ACode := .cond (.var 77) (.seq (.region [⟨some (4, true), .mv (.const (.bool false)), none⟩] none) (.ret)) (.skip)
theorem F4L0_parts : F4L0 = .seq F4Pa (.seq F4Pb (.seq F4Pc (.seq F4Pd (F4Pe)))) := rfl
def F4Qa : ACode := .region [⟨some (103, false), .indexAddr 1 (.var 99) (.var 101), none⟩, ⟨some (104, false), .load none (.tmp 103), none⟩, ⟨some (18, true), .mv (.tmp 104), none⟩] none
def F4Qb : ACode := .region [⟨some (106, false), .mv (.var 0), none⟩, ⟨some (107, false), .mv (.var 1), none⟩, ⟨some (108, false), .mv (.var 15), none⟩, ⟨some (109, false), .mv (.var 18), none⟩, ⟨some (110, false), .call false (.func 10) [(.tmp 106), (.tmp 107), (.tmp 108), (.tmp 109)], none⟩, ⟨some (105, false), .mv (.tmp 110), none⟩, ⟨some (111, false), .extract (.tmp 105) 0, none⟩, ⟨some (112, false), .extract (.tmp 105) 1, none⟩, ⟨some (19, true), .mv (.tmp 111), none⟩, ⟨some (20, true), .mv (.tmp 112), none⟩] none
def F4Qc : ACode := .seq (.region [⟨some (113, false), .mv (.var 20), none⟩, ⟨some (114, false), .bin .neq (.tmp 113) (.const (.int .i64 0)), none⟩, ⟨some (115, false), .mv (.tmp 114), none⟩, ⟨some (116, false), .mv (.var 19), some ((.tmp 115), false)⟩, ⟨some (117, false), .mv (.var 8), some ((.tmp 115), false)⟩, ⟨some (118, false), .bin .neq (.tmp 116) (.tmp 117), some ((.tmp 115), false)⟩, ⟨some (119, true), .pick (.tmp 115) (.const (.bool true)) (.tmp 118), none⟩] none) (.cond (.var 119) (.seq (.region [⟨some (4, true), .mv (.const (.bool false)), none⟩] none) (.ret)) (.skip))
def F4Qd : ACode := .region [⟨some (120, false), .mv (.var 8), none⟩, ⟨some (121, false), .bin .add (.tmp 120) (.const (.int .i64 1)), none⟩, ⟨some (8, true), .mv (.tmp 121), none⟩] none
theorem F4L1_parts : F4L1 = .seq F4Qa (.seq F4Qb (.seq F4Qc (F4Qd))) := rfl
def F4Ra : ACode := .region [⟨some (83, false), .mv (.var 81), none⟩, ⟨some (84, false), .indexAddr 6 (.var 79) (.var 81), none⟩, ⟨some (85, false), .load (some 6) (.tmp 84), none⟩, ⟨some (16, true), .alloc [.str [], .int .i64 0, .nil0, .int .i64 0, .int .i64 0, .int .i64 0], none⟩, ⟨some (15, true), .mv (.tmp 83), none⟩, ⟨none, .store 6 (.var 16) (.tmp 85), none⟩] none
def F4Rb : ACode := .seq (.region [⟨some (86, false), .fieldAddr 1 (.var 16), none⟩, ⟨some (87, false), .load none (.tmp 86), none⟩, ⟨some (88, false), .bin .eql (.tmp 87) (.const (.int .i64 0)), none⟩, ⟨some (89, false), .mv (.tmp 88), none⟩, ⟨some (90, false), .fieldAddr 1 (.var 16), some ((.tmp 89), false)⟩, ⟨some (91, false), .load none (.tmp 90), some ((.tmp 89), false)⟩, ⟨some (92, false), .bin .eql (.tmp 91) (.const (.int .i64 1)), some ((.tmp 89), false)⟩, ⟨some (93, false), .pick (.tmp 89) (.const (.bool true)) (.tmp 92), none⟩, ⟨some (94, false), .mv (.var 6), none⟩, ⟨some (95, true), .nilEq 4 true (.tmp 93) (.tmp 94), none⟩] none) (.cond (.var 95) (.exit 5) (.skip))
def F4Rc : ACode := .region [⟨some (96, false), .mv (.var 0), none⟩, ⟨some (97, false), .fieldAddr 2 (.var 16), none⟩, ⟨some (98, false), .load none (.tmp 97), none⟩, ⟨some (99, true), .call false (.func 17) [(.tmp 96), (.tmp 98)], none⟩, ⟨some (100, true), .len 1 (.var 99), none⟩, ⟨some (101, true), .mv (.const (.int .i64 0)), none⟩] none
def F4Rd : ACode := .block 6 (.loop (rangeBody 102 100 101 122 7 6 F4L1))
theorem F4L2_parts : F4L2 = .seq F4Ra (.seq F4Rb (.seq F4Rc (F4Rd))) := rfl
def F4Sa : ACode := .region [⟨some (40, false), .indexAddr 1 (.var 36) (.var 38), none⟩, ⟨some (41, false), .load none (.tmp 40), none⟩, ⟨some (6, true), .mv (.tmp 41), none⟩] none
def F4Sb : ACode := .region [⟨some (42, false), .mv (.var 0), none⟩, ⟨some (43, false), .mv (.var 1), none⟩, ⟨some (44, false), .mv (.var 6), none⟩, ⟨some (45, false), .call false (.func 16) [(.tmp 42), (.tmp 43), (.tmp 44)], none⟩, ⟨some (7, true), .mv (.tmp 45), none⟩, ⟨some (8, true), .mv (.const (.int .i64 0)), none⟩] none
def F4Sc : ACode := .seq (.region [⟨some (46, true), .mv (.var 7), none⟩, ⟨some (47, true), .mv (.const (.int .i64 0)), none⟩] none) (.block 2 (.loop (rangeBody 48 46 47 78 3 2 F4L0)))
def F4Sd : ACode := .seq (.region [⟨some (79, true), .mv (.var 1), none⟩, ⟨some (80, true), .len 1 (.var 79), none⟩, ⟨some (81, true), .mv (.const (.int .i64 0)), none⟩] none) (.block 4 (.loop (rangeBody 82 80 81 123 5 4 F4L2)))
def F4Se : ACode := .region [⟨some (125, false), .mv (.var 0), none⟩, ⟨some (126, false), .mv (.var 1), none⟩, ⟨some (127, false), .mv (.var 6), none⟩, ⟨some (128, false), .mv (.var 7), none⟩, ⟨some (129, false), .call false (.func 12) [(.tmp 125), (.tmp 126), (.tmp 127), (.tmp 128)], none⟩, ⟨some (124, false), .mv (.tmp 129), none⟩, ⟨some (130, false), .extract (.tmp 124) 0, none⟩, ⟨some (131, false), .extract (.tmp 124) 1, none⟩, ⟨some (132, false), .extract (.tmp 124) 2, none⟩, ⟨some (21, false), .mv (.tmp 130), none⟩, ⟨some (22, false), .mv (.tmp 131), none⟩, ⟨some (23, true), .mv (.tmp 132), none⟩] none
def F4Sf : ACode := .region [⟨some (133, false), .mv (.var 8), none⟩, ⟨some (134, false), .mv (.var 7), none⟩, ⟨some (135, false), .bin .neq (.tmp 133) (.tmp 134), none⟩, ⟨some (136, false), .mv (.tmp 135), none⟩, ⟨some (137, false), .mv (.var 23), some ((.tmp 136), false)⟩, ⟨some (138, true), .pick (.tmp 136) (.const (.bool true)) (.tmp 137), none⟩] none
def F4Sg : ACode := .cond (.var 138) (.seq (.region [⟨some (4, true), .mv (.const (.bool false)), none⟩] none) (.ret)) (.skip)
theorem F4L3_parts : F4L3 = .seq F4Sa (.seq F4Sb (.seq F4Sc (.seq F4Sd (.seq F4Se (.seq F4Sf (F4Sg)))))) := rfl

section
variable {sizes : List Int} {sv tv : V} {ts : List Tb} {b : Bool} {st : St}

set_option maxHeartbeats 1000000 in
/-- One cell, there and back. -/
theorem iv_0 {c : Nat} (hs : VI sv sizes) (ht : VT tv ts) (hV : Valid sizes ts) (hc : (c : Int) < sumB b sizes ts) (l0 : lookupE st.vE 0 = sv) (l1 : lookupE st.vE 1 = tv) (l6 : lookupE st.vE 6 = .bool b) (l47 : lookupE st.vE 47 = .int .i64 c) :
    ∃ st', execL tab F4L0 st = some (.normal, st') ∧ st'.H = st.H ∧ ∀ s, s ∉ [9, 10, 11, 12, 13, 14, 77] → lookupE st'.vE s = lookupE st.vE s := by
  obtain ⟨i, tu, h1, h2, h3⟩ := hV.there_back (b := b) (c := c) (by omega) hc
  have hsa := hV.sum_all b
  have c1 := tuple_s (strict := b) (cell := c) hs ht (by omega) st.H
  have c2 := cell_s (table := i) hs ht (tupV_VI (l := tu) (by omega)) st.H
  unfold Ans at c1 c2
  rw [h1] at c1
  rw [h3] at c2
  have hp := tupV_isP tu
  have hsp := slE_isP hs.sl
  have htp := slE_isP ht.sl
  generalize tupV tu = uv at *
  refine ⟨_, by simp [F4L0, callBody, zipE, execL_seq, execL_region, execL_cond, execL_skip, execL_ret, execL_exit, execL_block, execOps, wantedA, S_mv, S_pick, S_bin, S_un, S_call0, S_call1, S_extract, S_nilEq, S_load, S_alloc, Opd.ev, lookupE, lookE_setE, St.put, binA, unA, boolOf, freezeVs, freezeV, freeze1, isP, isPs, resultsA, resultA, finish, old, olds, flat, movedH_same, Nat.min_self, loadA, readCells, cellsV_int, l0, l1, l6, l47, hsp, htp, c1, c2, hp]; rfl, by simp, fun s hs => ?_⟩
  simp at hs
  simp [lookE_setE, hs]

set_option maxHeartbeats 1000000 in
/-- One tuple of a table. -/
theorem iv_1 {i j : Nat} {t : Tb} {LL : List V} {v : V} (hs : VI sv sizes) (ht : VT tv ts) (hV : Valid sizes ts) (het : ts[i]? = some t) (hj : (j : Int) < wid sizes t) (hg : LL[j]? = some v) (hv : VI v (tk (dimsOf sizes t.cl) j)) (hcv : cellsV v = [v])
    (l0 : lookupE st.vE 0 = sv) (l1 : lookupE st.vE 1 = tv) (l8 : lookupE st.vE 8 = .int .i64 (t.first + j)) (l15 : lookupE st.vE 15 = .int .i64 i) (l99 : lookupE st.vE 99 = .list 1 LL) (l101 : lookupE st.vE 101 = .int .i64 j) :
    ∃ st', execL tab F4L1 st = some (.normal, st') ∧ st'.H = st.H ∧ lookupE st'.vE 8 = .int .i64 (t.first + ((j + 1 : Nat) : Int)) ∧ ∀ s, s ∉ [8, 18, 19, 20, 119] → lookupE st'.vE s = lookupE st.vE s := by
  have hsa := hV.end_le het
  have hsb := hV.sum_all (strictB t)
  have c2 := cell_s (table := i) hs ht hv st.H
  unfold Ans at c2
  rw [hV.tuple_cell het hj] at c2
  have hp := slE_isP hv.sl
  have hsp := slE_isP hs.sl
  have htp := slE_isP ht.sl
  have hsl : slE 1 (V.list 1 LL) = true := rfl
  have hel : (el (V.list 1 LL))[j]? = some v := hg
  have hw : IntKind.i64.wrap (t.first + (j : Int) + 1) = t.first + ((j + 1 : Nat) : Int) := by rw [wrap_small] <;> omega
  refine ⟨_, by simp [F4L1, callBody, zipE, execL_seq, execL_region, execL_cond, execL_skip, execL_ret, execL_exit, execL_block, execOps, wantedA, S_mv, S_pick, S_bin, S_un, S_call0, S_call1, S_extract, S_nilEq, S_load, S_alloc, Opd.ev, lookupE, lookE_setE, St.put, binA, unA, boolOf, freezeVs, freezeV, freeze1, isP, isPs, resultsA, resultA, finish, old, olds, flat, movedH_same, Nat.min_self, loadA, readCells, cellsV_int, l0, l1, l8, l15, l99, l101, S_index, hsl, hel, hcv, hsp, htp, c2, hp, hw]; rfl, by simp, by simp [lookE_setE], fun s hs => ?_⟩
  simp at hs
  simp [lookE_setE, hs]

theorem low_ok {c : ACode} {st st' : St} {x : X} (h : execL tab c st = some (x, st')) (hl : st.low ≤ st.H.length) : st'.low ≤ st'.H.length := by
  have h1 := execL_low h hl
  have h2 := execL_len h hl
  omega

set_option maxHeartbeats 1000000 in
/-- All cells of one kind. -/
theorem iv_loop0 {N : Nat} (hs : VI sv sizes) (ht : VT tv ts) (hV : Valid sizes ts) (hN : sumB b sizes ts = N) (hl : st.low ≤ st.H.length) (l0 : lookupE st.vE 0 = sv) (l1 : lookupE st.vE 1 = tv) (l6 : lookupE st.vE 6 = .bool b) (l46 : lookupE st.vE 46 = .int .i64 N) (l47 : lookupE st.vE 47 = .int .i64 0) :
    ∃ st', execL tab (.loop (rangeBody 48 46 47 78 3 2 F4L0)) st = some (.exit 2, st') ∧ st'.H = st.H ∧ st'.low ≤ st'.H.length ∧ ∀ s, s ∉ [9, 10, 11, 12, 13, 14, 77, 47, 48] → lookupE st'.vE s = lookupE st.vE s := by
  have hsa := hV.sum_all b
  have key := range_loop (tab := tab) (b := 48) (n := 46) (i := 47) (t := 78) (blk := 3) (ex := 2) (body := F4L0)
    (I := fun k s => s.H = st.H ∧ s.low ≤ s.H.length ∧ lookupE s.vE 47 = .int .i64 k ∧ ∀ q, q ∉ [9, 10, 11, 12, 13, 14, 77, 47, 48] → lookupE s.vE q = lookupE st.vE q)
    (Q := fun x s => x = .exit 2 ∧ s.H = st.H ∧ s.low ≤ s.H.length ∧ ∀ q, q ∉ [9, 10, 11, 12, 13, 14, 77, 47, 48] → lookupE s.vE q = lookupE st.vE q)
    (N := N) (by omega) (by decide) (by decide)
    (fun k s h => ⟨h.2.2.1, by rw [h.2.2.2 46 (by simp)]; exact l46, h.2.1⟩)
    (by
      rintro k s hk ⟨q1, q2, q3, q4⟩
      obtain ⟨s1, a1, a2, a3⟩ := iv_0 (b := b) (c := k) (st := { s with tE := [], vE := setE s.vE 48 (.bool true) }) hs ht hV (by omega) (by simp [lookE_setE]; rw [q4 0 (by simp)]; exact l0) (by simp [lookE_setE]; rw [q4 1 (by simp)]; exact l1) (by simp [lookE_setE]; rw [q4 6 (by simp)]; exact l6) (by simp [lookE_setE]; exact q3)
      have hlo := low_ok a1 q2
      refine ⟨.normal, s1, a1, ?_⟩
      simp only [true_or, if_true]
      refine ⟨by rw [a3 47 (by simp)]; simp [lookE_setE, q3], hlo, by rw [a2]; exact q1, hlo, by simp [lookE_setE], fun q hq => ?_⟩
      have h47 : q ≠ 47 := by rintro rfl; simp at hq
      have h48 : q ≠ 48 := by rintro rfl; simp at hq
      simp only [lookE_setE, if_neg h47]
      rw [a3 q (by simp at hq ⊢; simp [hq])]
      simp only [lookE_setE, if_neg h48]
      exact q4 q hq)
    (by
      rintro s ⟨q1, q2, q3, q4⟩
      refine ⟨rfl, q1, q2, fun q hq => ?_⟩
      have h48 : q ≠ 48 := by rintro rfl; simp at hq
      simp only [lookE_setE, if_neg h48]
      exact q4 q hq)
  obtain ⟨x, st', h1, rfl, h2⟩ := key N 0 st (by omega) ⟨rfl, hl, l47, fun _ _ => rfl⟩
  exact ⟨st', h1, h2⟩

set_option maxHeartbeats 1000000 in
/-- All tuples of one table. -/
theorem iv_loop1 {i W : Nat} {t : Tb} {LL : List V} (hs : VI sv sizes) (ht : VT tv ts) (hV : Valid sizes ts) (het : ts[i]? = some t) (hW : wid sizes t = W) (hLL : ∀ k, k < W → ∃ v, LL[k]? = some v ∧ VI v (tk (dimsOf sizes t.cl) k) ∧ cellsV v = [v]) (hl : st.low ≤ st.H.length)
    (l0 : lookupE st.vE 0 = sv) (l1 : lookupE st.vE 1 = tv) (l8 : lookupE st.vE 8 = .int .i64 t.first) (l15 : lookupE st.vE 15 = .int .i64 i) (l99 : lookupE st.vE 99 = .list 1 LL) (l100 : lookupE st.vE 100 = .int .i64 W) (l101 : lookupE st.vE 101 = .int .i64 0) :
    ∃ st', execL tab (.loop (rangeBody 102 100 101 122 7 6 F4L1)) st = some (.exit 6, st') ∧ st'.H = st.H ∧ st'.low ≤ st'.H.length ∧ lookupE st'.vE 8 = .int .i64 (t.first + wid sizes t) ∧ ∀ s, s ∉ [8, 18, 19, 20, 119, 101, 102] → lookupE st'.vE s = lookupE st.vE s := by
  have hwb := hV.widb het
  have key := range_loop (tab := tab) (b := 102) (n := 100) (i := 101) (t := 122) (blk := 7) (ex := 6) (body := F4L1)
    (I := fun k s => s.H = st.H ∧ s.low ≤ s.H.length ∧ lookupE s.vE 101 = .int .i64 k ∧ lookupE s.vE 8 = .int .i64 (t.first + (k : Int)) ∧ ∀ q, q ∉ [8, 18, 19, 20, 119, 101, 102] → lookupE s.vE q = lookupE st.vE q)
    (Q := fun x s => x = .exit 6 ∧ s.H = st.H ∧ s.low ≤ s.H.length ∧ lookupE s.vE 8 = .int .i64 (t.first + wid sizes t) ∧ ∀ q, q ∉ [8, 18, 19, 20, 119, 101, 102] → lookupE s.vE q = lookupE st.vE q)
    (N := W) (by omega) (by decide) (by decide)
    (fun k s h => ⟨h.2.2.1, by rw [h.2.2.2.2 100 (by simp)]; exact l100, h.2.1⟩)
    (by
      rintro k s hk ⟨q1, q2, q3, q4, q5⟩
      obtain ⟨v, hg, hv, hcv⟩ := hLL k hk
      obtain ⟨s1, a1, a2, a3, a4⟩ := iv_1 (j := k) (st := { s with tE := [], vE := setE s.vE 102 (.bool true) }) hs ht hV het (by omega) hg hv hcv (by simp [lookE_setE]; rw [q5 0 (by simp)]; exact l0) (by simp [lookE_setE]; rw [q5 1 (by simp)]; exact l1) (by simp [lookE_setE]; exact q4) (by simp [lookE_setE]; rw [q5 15 (by simp)]; exact l15) (by simp [lookE_setE]; rw [q5 99 (by simp)]; exact l99) (by simp [lookE_setE]; exact q3)
      have hlo := low_ok a1 q2
      refine ⟨.normal, s1, a1, ?_⟩
      simp only [true_or, if_true]
      refine ⟨by rw [a4 101 (by simp)]; simp [lookE_setE, q3], hlo, by rw [a2]; exact q1, hlo, by simp [lookE_setE], by simp only [lookE_setE, if_neg (show ¬ (8 = 101) by decide)]; exact a3, fun q hq => ?_⟩
      have h47 : q ≠ 101 := by rintro rfl; simp at hq
      have h48 : q ≠ 102 := by rintro rfl; simp at hq
      simp only [lookE_setE, if_neg h47]
      rw [a4 q (by simp at hq ⊢; simp [hq])]
      simp only [lookE_setE, if_neg h48]
      exact q5 q hq)
    (by
      rintro s ⟨q1, q2, q3, q4, q5⟩
      refine ⟨rfl, q1, q2, by simp only [lookE_setE, if_neg (show ¬ (8 = 102) by decide), hW]; exact q4, fun q hq => ?_⟩
      have h48 : q ≠ 102 := by rintro rfl; simp at hq
      simp only [lookE_setE, if_neg h48]
      exact q5 q hq)
  obtain ⟨x, st', h1, rfl, h2⟩ := key W 0 st (by omega) ⟨rfl, hl, l101, by simpa using l8, fun _ _ => rfl⟩
  exact ⟨st', h1, h2⟩
end
end Go.Abs.T09
/- CellsInverse answers true. -/
namespace Go.Abs.T09
open Go Go.Abs

def K2 : List Nat := [8, 15, 16, 18, 19, 20, 81, 82, 95, 99, 100, 101, 102, 119]
theorem K2a : ∀ q, q ∉ K2 → q ≠ 8 ∧ q ≠ 15 ∧ q ≠ 16 ∧ q ≠ 18 ∧ q ≠ 19 ∧ q ≠ 20 ∧ q ≠ 81 ∧ q ≠ 82 ∧ q ≠ 95 ∧ q ≠ 99 ∧ q ≠ 100 ∧ q ≠ 101 ∧ q ≠ 102 ∧ q ≠ 119 := fun q h => by simpa [K2] using h

section
variable {sizes : List Int} {sv tv : V} {ts : List Tb} {b : Bool} {st : St}

set_option maxHeartbeats 2000000 in
/-- One table. -/
theorem iv_2 {i : Nat} {t : Tb} (hs : VI sv sizes) (ht : VT tv ts) (hV : Valid sizes ts) (het : ts[i]? = some t) (hl : st.low ≤ st.H.length)
    (l0 : lookupE st.vE 0 = sv) (l1 : lookupE st.vE 1 = tv) (l6 : lookupE st.vE 6 = .bool b) (l8 : lookupE st.vE 8 = .int .i64 (sumB b sizes (ts.take i))) (l79 : lookupE st.vE 79 = tv) (l81 : lookupE st.vE 81 = .int .i64 i) :
    ∃ x st', execL tab F4L2 st = some (x, st') ∧ (x = .normal ∨ x = .exit 5) ∧ lookupE st'.vE 8 = .int .i64 (sumB b sizes (ts.take (i + 1))) ∧ lookupE st'.vE 81 = .int .i64 i ∧ ∀ q, q ∉ K2 → lookupE st'.vE q = lookupE st.vE q := by
  have hto := ht.ok t (List.mem_of_getElem? het)
  have hg := ht.get het
  have hset : setCells [V.str [], .int .i64 0, .nil0, .int .i64 0, .int .i64 0, .int .i64 0] 0 t.cells = t.cells := rfl
  have A : ∃ s1, execL tab F4Ra st = some (.normal, s1) ∧ s1.H = st.H ++ [.cells t.cells] ∧ lookupE s1.vE 15 = .int .i64 i ∧ lookupE s1.vE 16 = .ptr st.H.length 0 ∧ ∀ q, q ≠ 15 → q ≠ 16 → lookupE s1.vE q = lookupE st.vE q := by
    refine ⟨_, by simp [F4Ra, callBody, zipE, execL_seq, execL_region, execL_cond, execL_skip, execL_ret, execL_exit, execL_block, execOps, wantedA, S_mv, S_pick, S_bin, S_un, S_call0, S_call1, S_extract, S_nilEq, S_load, S_alloc, Opd.ev, lookupE, lookE_setE, St.put, binA, unA, boolOf, freezeVs, freezeV, freeze1, isP, isPs, resultsA, resultA, finish, old, olds, flat, movedH_same, Nat.min_self, loadA, readCells, cellsV_int, l79, l81, S_index, ht.sl, hg, Tb.v, cellsV_agg, Tb.len, Tb.t6, S_store, storeA, hto.cells, hset]; rfl, by simp, by simp [lookE_setE, l81], by simp [lookE_setE], fun q h1 h2 => by simp [lookE_setE, h1, h2]⟩
  obtain ⟨s1, a1, a2, a3, a4, a5⟩ := A
  have hl1 := low_ok a1 hl
  have hp : s1.H[st.H.length]? = some (.cells t.cells) := by rw [a2]; simp
  have hpE : ∀ h : st.H.length < s1.H.length, s1.H[st.H.length]'h = .cells t.cells := fun h => by rw [List.getElem?_eq_getElem h] at hp; exact Option.some.inj hp
  have l61 : lookupE s1.vE 6 = .bool b := by rw [a5 6 (by decide) (by decide)]; exact l6
  have B : ∃ s2, execL tab F4Rb s1 = some (if strictB t == b then .normal else .exit 5, s2) ∧ s2.H = s1.H ∧ ∀ q, q ≠ 95 → lookupE s2.vE q = lookupE s1.vE q := by
    have e : (strictB t == b) = ((t.kind == 0 || t.kind == 1) == b) := rfl
    rw [e]
    cases k0 : (t.kind == 0) <;> cases k1 : (t.kind == 1) <;> cases b <;>
      exact ⟨_, by simp [F4Rb, callBody, zipE, execL_seq, execL_region, execL_cond, execL_skip, execL_ret, execL_exit, execL_block, execOps, wantedA, S_mv, S_pick, S_bin, S_un, S_call0, S_call1, S_extract, S_nilEq, S_load, S_alloc, Opd.ev, lookupE, lookE_setE, St.put, binA, unA, boolOf, freezeVs, freezeV, freeze1, isP, isPs, resultsA, resultA, finish, old, olds, flat, movedH_same, Nat.min_self, loadA, readCells, cellsV_int, a4, l61, hp, hpE, S_fieldAddr, Tb.c1, Tb.e1, Tb.len, k0, k1, nilEqA]; rfl, by simp, fun q h => by simp [lookE_setE, h]⟩
  obtain ⟨s2, b1, b2, b3⟩ := B
  have hl2 := low_ok b1 hl1
  cases hb : (strictB t == b) with
  | false =>
    rw [hb] at b1
    refine ⟨.exit 5, s2, ?_, .inr rfl, ?_, ?_, fun q hq => ?_⟩
    · rw [F4L2_parts, execL_seq, a1]
      simp only []
      rw [execL_seq, b1]
      simp
    · rw [sumB_succ het, hb, b3 8 (by decide), a5 8 (by decide) (by decide), l8]
      simp
    · rw [b3 81 (by decide), a5 81 (by decide) (by decide), l81]
    · have h := K2a q hq
      rw [b3 q h.2.2.2.2.2.2.2.2.1, a5 q h.2.1 h.2.2.1]
  | true =>
    rw [hb] at b1
    have hbe : strictB t = b := by simpa using hb
    obtain ⟨W, LL, hW, hT, hLL, hLk⟩ := hV.tuples hs het hto s2.H
    unfold Ans at hT
    have l02 : lookupE s2.vE 0 = sv := by rw [b3 0 (by decide), a5 0 (by decide) (by decide)]; exact l0
    have l162 : lookupE s2.vE 16 = .ptr st.H.length 0 := by rw [b3 16 (by decide)]; exact a4
    have hp2 : s2.H[st.H.length]? = some (.cells t.cells) := by rw [b2]; exact hp
    have hpE2 : ∀ h : st.H.length < s2.H.length, s2.H[st.H.length]'h = .cells t.cells := fun h => by rw [List.getElem?_eq_getElem h] at hp2; exact Option.some.inj hp2
    have hsl : slE 1 (V.list 1 LL) = true := rfl
    have hel : (el (V.list 1 LL)).length = W := hLL
    have C : ∃ s3, execL tab F4Rc s2 = some (.normal, s3) ∧ lookupE s3.vE 99 = .list 1 LL ∧ lookupE s3.vE 100 = .int .i64 W ∧ lookupE s3.vE 101 = .int .i64 0 ∧ ∀ q, q ≠ 99 → q ≠ 100 → q ≠ 101 → lookupE s3.vE q = lookupE s2.vE q := by
      refine ⟨_, by simp [F4Rc, callBody, zipE, execL_seq, execL_region, execL_cond, execL_skip, execL_ret, execL_exit, execL_block, execOps, wantedA, S_mv, S_pick, S_bin, S_un, S_call0, S_call1, S_extract, S_nilEq, S_load, S_alloc, Opd.ev, lookupE, lookE_setE, St.put, binA, unA, boolOf, freezeVs, freezeV, freeze1, isP, isPs, resultsA, resultA, finish, old, olds, flat, movedH_same, Nat.min_self, loadA, readCells, cellsV_int, l02, l162, hp2, hpE2, S_fieldAddr, Tb.c2, Tb.e2, Tb.len, slE_isP hs.sl, slE_isP hto.cols.sl, hT, S_len 1, hsl, hel]; rfl, by simp [lookE_setE], by simp [lookE_setE], by simp [lookE_setE], fun q h1 h2 h3 => by simp [lookE_setE, h1, h2, h3]⟩
    obtain ⟨s3, c1, c2, c3, c4, c5⟩ := C
    have hl3 := low_ok c1 hl2
    have keep3 : ∀ q, q ∉ K2 ∨ q = 8 ∨ q = 81 → lookupE s3.vE q = lookupE st.vE q := fun q hq => by
      have h : q ≠ 99 ∧ q ≠ 100 ∧ q ≠ 101 ∧ q ≠ 95 ∧ q ≠ 15 ∧ q ≠ 16 := by
        rcases hq with hq | rfl | rfl
        · have h := K2a q hq
          exact ⟨h.2.2.2.2.2.2.2.2.2.1, h.2.2.2.2.2.2.2.2.2.2.1, h.2.2.2.2.2.2.2.2.2.2.2.1, h.2.2.2.2.2.2.2.2.1, h.2.1, h.2.2.1⟩
        · decide
        · decide
      rw [c5 q h.1 h.2.1 h.2.2.1, b3 q h.2.2.2.1, a5 q h.2.2.2.2.1 h.2.2.2.2.2]
    obtain ⟨s4, d1, d2, d3, d4, d5⟩ := iv_loop1 (i := i) (W := W) (t := t) (LL := LL) (st := s3) hs ht hV het hW hLk hl3 (by rw [keep3 0 (.inl (by decide))]; exact l0) (by rw [keep3 1 (.inl (by decide))]; exact l1)
      (by rw [keep3 8 (.inr (.inl rfl)), l8, hV.first het, hbe]) (by rw [c5 15 (by decide) (by decide) (by decide), b3 15 (by decide)]; exact a3) c2 c3 c4
    refine ⟨.normal, s4, ?_, .inl rfl, ?_, ?_, fun q hq => ?_⟩
    · rw [F4L2_parts, execL_seq, a1]
      simp only []
      rw [execL_seq, b1]
      simp only [if_true]
      rw [execL_seq, c1]
      simp only []
      rw [F4Rd, execL_block, d1]
      simp
    · rw [d4, sumB_succ het, hb, hV.first het, hbe]; rfl
    · rw [d5 81 (by simp), keep3 81 (.inr (.inr rfl))]; exact l81
    · have h := K2a q hq
      rw [d5 q (by simp; omega), keep3 q (.inl hq)]

set_option maxHeartbeats 1000000 in
theorem iv_loop2 (hs : VI sv sizes) (ht : VT tv ts) (hV : Valid sizes ts) (hl : st.low ≤ st.H.length)
    (l0 : lookupE st.vE 0 = sv) (l1 : lookupE st.vE 1 = tv) (l6 : lookupE st.vE 6 = .bool b) (l8 : lookupE st.vE 8 = .int .i64 0) (l79 : lookupE st.vE 79 = tv) (l80 : lookupE st.vE 80 = .int .i64 ts.length) (l81 : lookupE st.vE 81 = .int .i64 0) :
    ∃ st', execL tab (.loop (rangeBody 82 80 81 123 5 4 F4L2)) st = some (.exit 4, st') ∧ st'.low ≤ st'.H.length ∧ lookupE st'.vE 8 = .int .i64 (sumB b sizes ts) ∧ ∀ q, q ∉ K2 → lookupE st'.vE q = lookupE st.vE q := by
  have key := range_loop (tab := tab) (b := 82) (n := 80) (i := 81) (t := 123) (blk := 5) (ex := 4) (body := F4L2)
    (I := fun k s => s.low ≤ s.H.length ∧ lookupE s.vE 81 = .int .i64 k ∧ lookupE s.vE 8 = .int .i64 (sumB b sizes (ts.take k)) ∧ ∀ q, q ∉ K2 → lookupE s.vE q = lookupE st.vE q)
    (Q := fun x s => x = .exit 4 ∧ s.low ≤ s.H.length ∧ lookupE s.vE 8 = .int .i64 (sumB b sizes ts) ∧ ∀ q, q ∉ K2 → lookupE s.vE q = lookupE st.vE q)
    (N := ts.length) ht.lt (by decide) (by decide)
    (fun k s h => ⟨h.2.1, by rw [h.2.2.2 80 (by decide)]; exact l80, h.1⟩)
    (by
      rintro k s hk ⟨q1, q2, q3, q4⟩
      obtain ⟨t, het⟩ : ∃ t, ts[k]? = some t := ⟨_, List.getElem?_eq_getElem hk⟩
      obtain ⟨x, s1, a1, a2, a3, a4, a5⟩ := iv_2 (b := b) (st := { s with tE := [], vE := setE s.vE 82 (.bool true) }) hs ht hV het q1 (by simp [lookE_setE]; rw [q4 0 (by decide)]; exact l0) (by simp [lookE_setE]; rw [q4 1 (by decide)]; exact l1) (by simp [lookE_setE]; rw [q4 6 (by decide)]; exact l6) (by simp [lookE_setE]; exact q3) (by simp [lookE_setE]; rw [q4 79 (by decide)]; exact l79) (by simp [lookE_setE]; exact q2)
      have hlo := low_ok a1 q1
      refine ⟨x, s1, a1, ?_⟩
      rw [if_pos a2]
      refine ⟨a4, hlo, hlo, by simp [lookE_setE], by simp only [lookE_setE, if_neg (show ¬ (8 = 81) by decide)]; exact a3, fun q hq => ?_⟩
      have h := K2a q hq
      simp only [lookE_setE, if_neg h.2.2.2.2.2.2.1]
      rw [a5 q hq]
      simp only [lookE_setE, if_neg h.2.2.2.2.2.2.2.1]
      exact q4 q hq)
    (by
      rintro s ⟨q1, q2, q3, q4⟩
      rw [List.take_length] at q3
      refine ⟨rfl, q1, by simp only [lookE_setE, if_neg (show ¬ (8 = 82) by decide)]; exact q3, fun q hq => ?_⟩
      have h := K2a q hq
      simp only [lookE_setE, if_neg h.2.2.2.2.2.2.2.1]
      exact q4 q hq)
  obtain ⟨x, st', h1, rfl, h2⟩ := key ts.length 0 st (by omega) ⟨hl, l81, by simpa [sumB] using l8, fun _ _ => rfl⟩
  exact ⟨st', h1, h2⟩

def K3 : List Nat := K2 ++ [6, 7, 9, 10, 11, 12, 13, 14, 77, 46, 47, 48, 79, 80, 23, 138]

set_option maxHeartbeats 2000000 in
/-- One kind of cells. -/
theorem iv_3 {k : Nat} (hs : VI sv sizes) (ht : VT tv ts) (hV : Valid sizes ts) (hl : st.low ≤ st.H.length) (hk : ([V.bool true, .bool false] : List V)[k]? = some (.bool b))
    (l0 : lookupE st.vE 0 = sv) (l1 : lookupE st.vE 1 = tv) (l36 : lookupE st.vE 36 = .list 1 [.bool true, .bool false]) (l38 : lookupE st.vE 38 = .int .i64 k) :
    ∃ st', execL tab F4L3 st = some (.normal, st') ∧ ∀ q, q ∉ K3 → lookupE st'.vE q = lookupE st.vE q := by
  have hcnt : countR b sizes ts = sumB b sizes ts := by unfold countR; rw [valid_iff.2 hV]; rfl
  have hsa := hV.sum_all b
  obtain ⟨N, hN⟩ : ∃ N : Nat, sumB b sizes ts = N := ⟨(sumB b sizes ts).toNat, by omega⟩
  have A : ∃ s1, execL tab F4Sa st = some (.normal, s1) ∧ lookupE s1.vE 6 = .bool b ∧ ∀ q, q ≠ 6 → lookupE s1.vE q = lookupE st.vE q := by
    have hsl : slE 1 (V.list 1 [.bool true, .bool false]) = true := rfl
    have hel : (el (V.list 1 [.bool true, .bool false]))[k]? = some (.bool b) := hk
    refine ⟨_, by simp [F4Sa, callBody, zipE, execL_seq, execL_region, execL_cond, execL_skip, execL_ret, execL_exit, execL_block, execOps, wantedA, S_mv, S_pick, S_bin, S_un, S_call0, S_call1, S_extract, S_nilEq, S_load, S_alloc, Opd.ev, lookupE, lookE_setE, St.put, binA, unA, boolOf, freezeVs, freezeV, freeze1, isP, isPs, resultsA, resultA, finish, old, olds, flat, movedH_same, Nat.min_self, loadA, readCells, cellsV_int, l36, l38, S_index, hsl, hel, cellsV]; rfl, by simp [lookE_setE], fun q h => by simp [lookE_setE, h]⟩
  obtain ⟨s1, a1, a2, a3⟩ := A
  have hl1 := low_ok a1 hl
  have l01 : lookupE s1.vE 0 = sv := by rw [a3 0 (by decide)]; exact l0
  have l11 : lookupE s1.vE 1 = tv := by rw [a3 1 (by decide)]; exact l1
  have hsp := slE_isP hs.sl
  have htp := slE_isP ht.sl
  have B : ∃ s2, execL tab F4Sb s1 = some (.normal, s2) ∧ lookupE s2.vE 7 = .int .i64 N ∧ lookupE s2.vE 8 = .int .i64 0 ∧ ∀ q, q ≠ 7 → q ≠ 8 → lookupE s2.vE q = lookupE s1.vE q := by
    have hc := count_s (strict := b) hs ht s1.H
    unfold Ans at hc
    rw [hcnt, hN] at hc
    refine ⟨_, by simp [F4Sb, callBody, zipE, execL_seq, execL_region, execL_cond, execL_skip, execL_ret, execL_exit, execL_block, execOps, wantedA, S_mv, S_pick, S_bin, S_un, S_call0, S_call1, S_extract, S_nilEq, S_load, S_alloc, Opd.ev, lookupE, lookE_setE, St.put, binA, unA, boolOf, freezeVs, freezeV, freeze1, isP, isPs, resultsA, resultA, finish, old, olds, flat, movedH_same, Nat.min_self, loadA, readCells, cellsV_int, l01, l11, a2, hsp, htp, hc]; rfl, by simp [lookE_setE], by simp [lookE_setE], fun q h1 h2 => by simp [lookE_setE, h1, h2]⟩
  obtain ⟨s2, b1, b2, b3, b4⟩ := B
  have hl2 := low_ok b1 hl1
  have C0 : ∃ s3, execL tab (.region [⟨some (46, true), .mv (.var 7), none⟩, ⟨some (47, true), .mv (.const (.int .i64 0)), none⟩] none) s2 = some (.normal, s3) ∧ lookupE s3.vE 46 = .int .i64 N ∧ lookupE s3.vE 47 = .int .i64 0 ∧ ∀ q, q ≠ 46 → q ≠ 47 → lookupE s3.vE q = lookupE s2.vE q := by
    refine ⟨_, by simp [callBody, zipE, execL_seq, execL_region, execL_cond, execL_skip, execL_ret, execL_exit, execL_block, execOps, wantedA, S_mv, S_pick, S_bin, S_un, S_call0, S_call1, S_extract, S_nilEq, S_load, S_alloc, Opd.ev, lookupE, lookE_setE, St.put, binA, unA, boolOf, freezeVs, freezeV, freeze1, isP, isPs, resultsA, resultA, finish, old, olds, flat, movedH_same, Nat.min_self, loadA, readCells, cellsV_int, b2]; rfl, by simp [lookE_setE, b2], by simp [lookE_setE], fun q h1 h2 => by simp [lookE_setE, h1, h2]⟩
  obtain ⟨s3, c1, c2, c3, c4⟩ := C0
  have hl3 := low_ok c1 hl2
  obtain ⟨s4, d1, d2, d3, d4⟩ := iv_loop0 (b := b) (N := N) (st := s3) hs ht hV hN hl3 (by rw [c4 0 (by decide) (by decide), b4 0 (by decide) (by decide)]; exact l01) (by rw [c4 1 (by decide) (by decide), b4 1 (by decide) (by decide)]; exact l11) (by rw [c4 6 (by decide) (by decide), b4 6 (by decide) (by decide)]; exact a2) c2 c3
  have l04 : lookupE s4.vE 0 = sv := by rw [d4 0 (by simp), c4 0 (by decide) (by decide), b4 0 (by decide) (by decide)]; exact l01
  have l14 : lookupE s4.vE 1 = tv := by rw [d4 1 (by simp), c4 1 (by decide) (by decide), b4 1 (by decide) (by decide)]; exact l11
  have l64 : lookupE s4.vE 6 = .bool b := by rw [d4 6 (by simp), c4 6 (by decide) (by decide), b4 6 (by decide) (by decide)]; exact a2
  have l74 : lookupE s4.vE 7 = .int .i64 N := by rw [d4 7 (by simp), c4 7 (by decide) (by decide)]; exact b2
  have l84 : lookupE s4.vE 8 = .int .i64 0 := by rw [d4 8 (by simp), c4 8 (by decide) (by decide)]; exact b3
  have E0 : ∃ s5, execL tab (.region [⟨some (79, true), .mv (.var 1), none⟩, ⟨some (80, true), .len 1 (.var 79), none⟩, ⟨some (81, true), .mv (.const (.int .i64 0)), none⟩] none) s4 = some (.normal, s5) ∧ lookupE s5.vE 79 = tv ∧ lookupE s5.vE 80 = .int .i64 ts.length ∧ lookupE s5.vE 81 = .int .i64 0 ∧ ∀ q, q ≠ 79 → q ≠ 80 → q ≠ 81 → lookupE s5.vE q = lookupE s4.vE q := by
    refine ⟨_, by simp [callBody, zipE, execL_seq, execL_region, execL_cond, execL_skip, execL_ret, execL_exit, execL_block, execOps, wantedA, S_mv, S_pick, S_bin, S_un, S_call0, S_call1, S_extract, S_nilEq, S_load, S_alloc, Opd.ev, lookupE, lookE_setE, St.put, binA, unA, boolOf, freezeVs, freezeV, freeze1, isP, isPs, resultsA, resultA, finish, old, olds, flat, movedH_same, Nat.min_self, loadA, readCells, cellsV_int, l14, S_len 6, ht.sl, ht.len]; rfl, by simp [lookE_setE, l14], by simp [lookE_setE], by simp [lookE_setE], fun q h1 h2 h3 => by simp [lookE_setE, h1, h2, h3]⟩
  obtain ⟨s5, e1, e2, e3, e4, e5⟩ := E0
  have hl5 := low_ok e1 d3
  obtain ⟨s6, f1, f2, f3, f4⟩ := iv_loop2 (b := b) (st := s5) hs ht hV hl5 (by rw [e5 0 (by decide) (by decide) (by decide)]; exact l04) (by rw [e5 1 (by decide) (by decide) (by decide)]; exact l14) (by rw [e5 6 (by decide) (by decide) (by decide)]; exact l64) (by rw [e5 8 (by decide) (by decide) (by decide)]; exact l84) e2 e3 e4
  have l06 : lookupE s6.vE 0 = sv := by rw [f4 0 (by decide), e5 0 (by decide) (by decide) (by decide)]; exact l04
  have l16 : lookupE s6.vE 1 = tv := by rw [f4 1 (by decide), e5 1 (by decide) (by decide) (by decide)]; exact l14
  have l66 : lookupE s6.vE 6 = .bool b := by rw [f4 6 (by decide), e5 6 (by decide) (by decide) (by decide)]; exact l64
  have l76 : lookupE s6.vE 7 = .int .i64 N := by rw [f4 7 (by decide), e5 7 (by decide) (by decide) (by decide)]; exact l74
  have l86 : lookupE s6.vE 8 = .int .i64 N := by rw [f3, hN]
  have G : ∃ s7, execL tab (.seq F4Se (.seq F4Sf F4Sg)) s6 = some (.normal, s7) ∧ ∀ q, q ≠ 23 → q ≠ 138 → lookupE s7.vE q = lookupE s6.vE q := by
    have hT := tuple_s (strict := b) (cell := (N : Int)) hs ht (by omega) s6.H
    unfold Ans at hT
    rw [← hN, hV.none_at_end, hN] at hT
    refine ⟨_, by simp [F4Se, F4Sf, F4Sg, callBody, zipE, execL_seq, execL_region, execL_cond, execL_skip, execL_ret, execL_exit, execL_block, execOps, wantedA, S_mv, S_pick, S_bin, S_un, S_call0, S_call1, S_extract, S_nilEq, S_load, S_alloc, Opd.ev, lookupE, lookE_setE, St.put, binA, unA, boolOf, freezeVs, freezeV, freeze1, isP, isPs, resultsA, resultA, finish, old, olds, flat, movedH_same, Nat.min_self, loadA, readCells, cellsV_int, l06, l16, l66, l76, l86, hsp, htp, hT]; rfl, fun q h1 h2 => by simp [lookE_setE, h1, h2]⟩
  obtain ⟨s7, g1, g2⟩ := G
  refine ⟨s7, ?_, fun q hq => ?_⟩
  · have hSc : F4Sc = .seq (.region [⟨some (46, true), .mv (.var 7), none⟩, ⟨some (47, true), .mv (.const (.int .i64 0)), none⟩] none) (.block 2 (.loop (rangeBody 48 46 47 78 3 2 F4L0))) := rfl
    have hSd : F4Sd = .seq (.region [⟨some (79, true), .mv (.var 1), none⟩, ⟨some (80, true), .len 1 (.var 79), none⟩, ⟨some (81, true), .mv (.const (.int .i64 0)), none⟩] none) (.block 4 (.loop (rangeBody 82 80 81 123 5 4 F4L2))) := rfl
    rw [F4L3_parts, execL_seq, a1]
    simp only []
    rw [execL_seq, b1]
    simp only []
    rw [execL_seq, hSc, execL_seq, c1]
    simp only []
    rw [execL_block, d1]
    simp only [if_true]
    rw [execL_seq, hSd, execL_seq, e1]
    simp only []
    rw [execL_block, f1]
    simp only [if_true]
    exact g1
  · have h : q ∉ K2 ∧ q ∉ [6, 7, 9, 10, 11, 12, 13, 14, 77, 46, 47, 48, 79, 80, 23, 138] := by
      unfold K3 at hq
      rw [List.mem_append, not_or] at hq
      exact hq
    obtain ⟨h1, h2⟩ := h
    have h3 := K2a q h1
    simp only [List.mem_cons, List.not_mem_nil, or_false, not_or] at h2
    rw [g2 q (by omega) (by omega), f4 q h1, e5 q (by omega) (by omega) (by omega), d4 q (by simp; omega), c4 q (by omega) (by omega), b4 q (by omega) (by omega), a3 q (by omega)]
end

set_option maxHeartbeats 2000000 in
theorem cellsInverse_s {sv tv : V} {sizes : List Int} {ts : List Tb} (hs : VI sv sizes) (ht : VT tv ts) : callL tab (.fn 4 [] []) [sv, tv] [] = some (.bool true, [], 0) := by
  have haw := awake_s
  have hf := few_s hs ht []
  have hv := valid_s hs ht []
  unfold Ans at hf hv
  simp only [List.length_nil] at hf hv
  have hsp := slE_isP hs.sl
  have htp := slE_isP ht.sl
  rw [callL_fn, show tab 4 = some (.code F4) from rfl]
  cases hF : fewB sizes ts with
  | false =>
    rw [hF] at hf
    simp [F4, callBody, zipE, execL_seq, execL_region, execL_cond, execL_skip, execL_ret, execL_exit, execL_block, execOps, wantedA, S_mv, S_pick, S_bin, S_un, S_call0, S_call1, S_extract, S_nilEq, S_load, S_alloc, Opd.ev, lookupE, setE, St.put, binA, unA, boolOf, freezeVs, freezeV, freeze1, isP, isPs, resultsA, resultA, finish, old, olds, flat, movedH_same, Nat.min_self, loadA, readCells, cellsV_int, haw, hf, hsp, htp]
  | true =>
    rw [hF] at hf
    cases hV : validB sizes ts with
    | false =>
      rw [hV] at hv
      simp [F4, callBody, zipE, execL_seq, execL_region, execL_cond, execL_skip, execL_ret, execL_exit, execL_block, execOps, wantedA, S_mv, S_pick, S_bin, S_un, S_call0, S_call1, S_extract, S_nilEq, S_load, S_alloc, Opd.ev, lookupE, setE, St.put, binA, unA, boolOf, freezeVs, freezeV, freeze1, isP, isPs, resultsA, resultA, finish, old, olds, flat, movedH_same, Nat.min_self, loadA, readCells, cellsV_int, haw, hf, hv, hsp, htp]
    | true =>
      rw [hV] at hv
      have hVd := valid_iff.1 hV
      have key := range_loop (tab := tab) (b := 39) (n := 37) (i := 38) (t := 139) (blk := 1) (ex := 0) (body := F4L3)
        (I := fun k s => s.low ≤ s.H.length ∧ lookupE s.vE 38 = .int .i64 k ∧ lookupE s.vE 0 = sv ∧ lookupE s.vE 1 = tv ∧ lookupE s.vE 36 = .list 1 [.bool true, .bool false] ∧ lookupE s.vE 37 = .int .i64 (2 : Nat))
        (Q := fun x s => x = .exit 0)
        (N := 2) (by decide) (by decide) (by decide)
        (fun k s h => ⟨h.2.1, h.2.2.2.2.2, h.1⟩)
        (by
          rintro k s hk ⟨q1, q2, q3, q4, q5, q6⟩
          obtain ⟨b, hkb⟩ : ∃ b, ([V.bool true, .bool false] : List V)[k]? = some (.bool b) := by
            rcases (show k = 0 ∨ k = 1 by omega) with rfl | rfl
            · exact ⟨true, rfl⟩
            · exact ⟨false, rfl⟩
          obtain ⟨s1, a1, a2⟩ := iv_3 (b := b) (k := k) (st := { s with tE := [], vE := setE s.vE 39 (.bool true) }) hs ht hVd q1 hkb (by simp [lookE_setE, q3]) (by simp [lookE_setE, q4]) (by simp [lookE_setE, q5]) (by simp [lookE_setE, q2])
          have hlo := low_ok a1 q1
          refine ⟨.normal, s1, a1, ?_⟩
          simp only [true_or, if_true]
          have e38 := a2 38 (by decide)
          have e0 := a2 0 (by decide)
          have e1 := a2 1 (by decide)
          have e36 := a2 36 (by decide)
          have e37 := a2 37 (by decide)
          simp only [lookE_setE] at e38 e0 e1 e36 e37
          exact ⟨by rw [e38]; simpa using q2, hlo, hlo, by simp [lookE_setE], by simp only [lookE_setE]; rw [e0]; simpa using q3, by simp only [lookE_setE]; rw [e1]; simpa using q4, by simp only [lookE_setE]; rw [e36]; simpa using q5, by simp only [lookE_setE]; rw [e37]; simpa using q6⟩)
        (by rintro s _; rfl)
      obtain ⟨x, st', h1, rfl⟩ := key 2 0 { tE := [], vE := [(0, sv), (1, tv), (4, .bool false), (25, .bool false), (35, .bool false), (36, .list 1 [.bool true, .bool false]), (37, .int .i64 2), (38, .int .i64 0)], H := [], low := 0 } (by omega) ⟨Nat.le_refl _, rfl, rfl, rfl, rfl, rfl⟩
      simp [F4, callBody, zipE, execL_seq, execL_region, execL_cond, execL_skip, execL_ret, execL_exit, execL_block, execOps, wantedA, S_mv, S_pick, S_bin, S_un, S_call0, S_call1, S_extract, S_nilEq, S_load, S_alloc, S_box, Opd.ev, lookupE, setE, St.put, binA, unA, boolOf, freezeVs, freezeV, freeze1, isP, isPs, resultsA, resultA, finish, old, olds, flat, movedH_same, Nat.min_self, loadA, readCells, cellsV, haw, hf, hv, hsp, htp, S_lit, step, fillL, zeroElem, cellsOk, cellOk, S_len 1, slE, el, h1, lookE_setE]
end Go.Abs.T09
