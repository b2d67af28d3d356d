/- The reference's lexer: words, symbols. -/
import Derived.Test.YteiajndkjnlmiaaGreatDoorP07
import Derived.Test.YteiajndkjnlmiaaGreatDoorP06
import Derived.Test.YteiajndkjnlmiaaGreatDoorP03
set_option linter.unusedVariables false
set_option linter.unusedSimpArgs false
namespace Go.Abs.T09
open Go Go.Abs

def kwParts : List (Nat × Opd) := [(0, (.const (.str [115, 111, 114, 116]))), (1, (.const (.str [114, 101, 108, 97, 116, 105, 111, 110]))), (2, (.const (.str [99, 111, 117, 110, 116, 101, 114]))), (3, (.const (.str [115, 101, 116]))), (4, (.const (.str [114, 101, 103, 105, 115, 116, 101, 114]))), (5, (.const (.str [105, 110, 118, 97, 114, 105, 97, 110, 116]))), (6, (.const (.str [111, 112, 101, 114, 97, 116, 105, 111, 110]))), (7, (.const (.str [107, 101, 121]))), (8, (.const (.str [114, 101, 102, 101, 114, 101, 110, 99, 101]))), (9, (.const (.str [116, 111]))), (10, (.const (.str [99, 111, 117, 110, 116]))), (11, (.const (.str [97, 99, 121, 99, 108, 105, 99]))), (12, (.const (.str [97, 108, 108]))), (13, (.const (.str [115, 117, 109]))), (14, (.const (.str [105, 110]))), (15, (.const (.str [97, 100, 100, 119, 105, 110, 115]))), (16, (.const (.str [114, 101, 109, 111, 118, 101, 119, 105, 110, 115]))), (17, (.const (.str [108, 97, 115, 116]))), (18, (.const (.str [109, 117, 108, 116, 105]))), (19, (.const (.str [104, 105, 100, 101]))), (20, (.const (.str [111, 114, 100, 101, 114, 101, 100]))), (21, (.const (.str [114, 101, 113, 117, 105, 114, 101]))), (22, (.const (.str [104, 111, 108, 100]))), (23, (.const (.str [105, 110, 115, 101, 114, 116]))), (24, (.const (.str [100, 101, 108, 101, 116, 101]))), (25, (.const (.str [97, 100, 100]))), (26, (.const (.str [102, 114, 111, 109]))), (27, (.const (.str [112, 117, 116]))), (28, (.const (.str [100, 114, 111, 112]))), (29, (.const (.str [97, 115, 115, 105, 103, 110]))), (30, (.const (.str [102, 111, 114]))), (31, (.const (.str [119, 104, 101, 114, 101]))), (32, (.const (.str [97, 110, 100]))), (33, (.const (.str [111, 114]))), (34, (.const (.str [110, 111, 116])))]
def syParts : List (Nat × Opd) := [(0, (.const (.str [61, 61]))), (1, (.const (.str [33, 61]))), (2, (.const (.str [60, 61]))), (3, (.const (.str [62, 61]))), (4, (.const (.str [46, 46]))), (5, (.const (.str [60]))), (6, (.const (.str [62]))), (7, (.const (.str [61]))), (8, (.const (.str [43]))), (9, (.const (.str [45]))), (10, (.const (.str [42]))), (11, (.const (.str [40]))), (12, (.const (.str [41]))), (13, (.const (.str [123]))), (14, (.const (.str [125]))), (15, (.const (.str [44]))), (16, (.const (.str [58]))), (17, (.const (.str [59])))]
def syms : List (List UInt8) := two ++ one.map fun c => [c]
theorem F124_parts : F124 = ⟨2, .seq (.region [⟨some (0, true), .mv (.const (.nil0)), none⟩] none) (.seq (.region [⟨some (1, false), .lit 1 [.str []] 35 kwParts true, none⟩, ⟨some (0, true), .mv (.tmp 1), none⟩] none) (.ret)), [.tmp 0], false⟩ := rfl
theorem F132_parts : F132 = ⟨2, .seq (.region [⟨some (0, true), .mv (.const (.nil0)), none⟩] none) (.seq (.region [⟨some (1, false), .lit 1 [.str []] 18 syParts true, none⟩, ⟨some (0, true), .mv (.tmp 1), none⟩] none) (.ret)), [.tmp 0], false⟩ := rfl
theorem kwLit {call : CallT} {tE vE : Env} {H : Heap} {low : Nat} : stepC call (Opd.ev tE vE) H low (.lit 1 [.str []] 35 kwParts true) = some (.list 1 (kw.map .str), H, low) := by kernel_rfl
theorem syLit {call : CallT} {tE vE : Env} {H : Heap} {low : Nat} : stepC call (Opd.ev tE vE) H low (.lit 1 [.str []] 18 syParts true) = some (.list 1 (syms.map .str), H, low) := by kernel_rfl

theorem keywords2_s (H : Heap) : Ans (.fn 124 [] []) [] H (.list 1 (kw.map .str)) := by
  unfold Ans
  rw [callL_fn, show tab 124 = some (.code F124) from rfl, F124_parts]
  simp [callBody, zipE, execL_seq, execL_region, execL_cond, execL_skip, execL_ret, execL_exit, execL_block, execOps, wantedA, S_mv, S_pick, S_bin, S_un, S_call0, S_call1, S_extract, S_nilEq, S_load, S_alloc, S_box, Opd.ev, lookupE, setE, St.put, binA, unA, boolOf, freezeVs, freezeV, freeze1, isP, isPs, resultsA, resultA, finish, old, olds, flat, movedH_same, Nat.min_self, loadA, readCells, cellsV, kwLit]
theorem symbols2_s (H : Heap) : Ans (.fn 132 [] []) [] H (.list 1 (syms.map .str)) := by
  unfold Ans
  rw [callL_fn, show tab 132 = some (.code F132) from rfl, F132_parts]
  simp [callBody, zipE, execL_seq, execL_region, execL_cond, execL_skip, execL_ret, execL_exit, execL_block, execOps, wantedA, S_mv, S_pick, S_bin, S_un, S_call0, S_call1, S_extract, S_nilEq, S_load, S_alloc, S_box, Opd.ev, lookupE, setE, St.put, binA, unA, boolOf, freezeVs, freezeV, freeze1, isP, isPs, resultsA, resultA, finish, old, olds, flat, movedH_same, Nat.min_self, loadA, readCells, cellsV, syLit]

/-! ### Has -/
set_option maxHeartbeats 1000000 in
theorem has_loop {l : List (List UInt8)} {x : List UInt8} {H : Heap} (hl : l.length < 4611686018427387904) :
    ∀ (r : List (List UInt8)) (k : Nat) (st : St), l.drop k = r → k ≤ l.length → st.H = H → st.low = H.length → lookupE st.vE 0 = .list 1 (l.map .str) → lookupE st.vE 1 = .str x → lookupE st.vE 5 = .int .i64 k →
      ∃ y st', execL tab (.loop F123L0) st = some (y, st') ∧ st'.H = H ∧ st'.low = H.length ∧ ((y = .exit 0 ∧ r.contains x = false) ∨ (y = .ret ∧ r.contains x = true ∧ lookupE st'.vE 4 = .bool true))
  | [], k, st, hr, hk, h1, h2, h3, h4, h5 => by
    have hle := drop_nil hr
    have hn : ¬ (k : Int) < (l.length : Int) := by omega
    have hsl : slE 1 (V.list 1 (l.map .str)) = true := rfl
    have hel : (el (V.list 1 (l.map .str))).length = l.length := by simp [el]
    rw [execL_loop]
    refine ⟨.exit 0, _, by simp [F123L0, callBody, zipE, execL_seq, execL_region, execL_cond, execL_skip, execL_ret, execL_exit, execL_block, execOps, wantedA, S_mv, S_pick, S_bin, S_un, S_call0, S_call1, S_extract, S_nilEq, S_load, S_alloc, S_box, Opd.ev, lookupE, lookE_setE, St.put, binA, unA, boolOf, freezeVs, freezeV, freeze1, isP, isPs, resultsA, resultA, finish, old, olds, flat, movedH_same, Nat.min_self, loadA, readCells, cellsV, S_len 1, hsl, hel, h1, h2, h3, h4, h5, hn]; rfl, ?_⟩
    simp [lookE_setE, h1, h2]
  | w :: r, k, st, hr, hk, h1, h2, h3, h4, h5 => by
    obtain ⟨g1, g2, g3⟩ := drop_cons hr
    have hn : (k : Int) < (l.length : Int) := by omega
    have hsl : slE 1 (V.list 1 (l.map .str)) = true := rfl
    have hel : (el (V.list 1 (l.map .str))).length = l.length := by simp [el]
    have hg : (el (V.list 1 (l.map .str)))[k]? = some (.str w) := by simp [el, g1]
    have hw : IntKind.i64.wrap ((k : Int) + 1) = ((k + 1 : Nat) : Int) := by rw [wrap_small] <;> omega
    rw [execL_loop]
    cases hx : (w == x) with
    | true =>
      have e : w = x := eq_of_beq hx
      refine ⟨.ret, _, by simp [F123L0, callBody, zipE, execL_seq, execL_region, execL_cond, execL_skip, execL_ret, execL_exit, execL_block, execOps, wantedA, S_mv, S_pick, S_bin, S_un, S_call0, S_call1, S_extract, S_nilEq, S_load, S_alloc, S_box, Opd.ev, lookupE, lookE_setE, St.put, binA, unA, boolOf, freezeVs, freezeV, freeze1, isP, isPs, resultsA, resultA, finish, old, olds, flat, movedH_same, Nat.min_self, loadA, readCells, cellsV, S_len 1, S_index, hsl, hel, hg, h1, h2, h3, h4, h5, hn, hx, -List.getElem?_map]; rfl, ?_⟩
      exact ⟨by simp, by simp, .inr ⟨rfl, by simp [e], by simp [lookE_setE]⟩⟩
    | false =>
      have e : ¬ w = x := by simpa using hx
      have hstep : ∃ st1, execL tab F123L0 st = some (.normal, st1) ∧ st1.H = H ∧ st1.low = H.length ∧ lookupE st1.vE 0 = .list 1 (l.map .str) ∧ lookupE st1.vE 1 = .str x ∧ lookupE st1.vE 5 = .int .i64 ((k + 1 : Nat) : Int) := by
        refine ⟨_, by simp [F123L0, callBody, zipE, execL_seq, execL_region, execL_cond, execL_skip, execL_ret, execL_exit, execL_block, execOps, wantedA, S_mv, S_pick, S_bin, S_un, S_call0, S_call1, S_extract, S_nilEq, S_load, S_alloc, S_box, Opd.ev, lookupE, lookE_setE, St.put, binA, unA, boolOf, freezeVs, freezeV, freeze1, isP, isPs, resultsA, resultA, finish, old, olds, flat, movedH_same, Nat.min_self, loadA, readCells, cellsV, S_len 1, S_index, hsl, hel, hg, h1, h2, h3, h4, h5, hn, hx, hw, -List.getElem?_map]; rfl, ?_⟩
        simp [lookE_setE, h1, h2, h3, h4]
      obtain ⟨st1, q1, q2, q3, q4, q5, q6⟩ := hstep
      obtain ⟨y, st', r1, r2, r3, r4⟩ := has_loop hl r (k + 1) st1 g2 (by omega) q2 q3 q4 q5 q6
      refine ⟨y, st', by rw [q1]; exact r1, r2, r3, ?_⟩
      have ec : (w :: r).contains x = r.contains x := by
        rw [List.contains_cons]
        have : (x == w) = false := by simp [Ne.symm e]
        rw [this, Bool.false_or]
      rw [ec]; exact r4

theorem has_s {l : List (List UInt8)} {x : List UInt8} (hl : l.length < 4611686018427387904) (hp : isP (.list 1 (l.map .str)) = true) (H : Heap) : Ans (.fn 123 [] []) [.list 1 (l.map .str), .str x] H (.bool (l.contains x)) := by
  unfold Ans
  rw [callL_fn, show tab 123 = some (.code F123) from rfl]
  obtain ⟨y, st', r1, r2, r3, r4⟩ := has_loop (x := x) (H := H) hl l 0 { tE := [], vE := [(0, .list 1 (l.map .str)), (1, .str x), (4, .bool false), (5, .int .i64 0)], H := H, low := H.length } rfl (Nat.zero_le _) rfl rfl rfl rfl rfl
  rcases r4 with ⟨rfl, r4⟩ | ⟨rfl, r4, r5⟩
  · rw [r4]; simp [F123, callBody, zipE, execL_seq, execL_region, execL_cond, execL_skip, execL_ret, execL_exit, execL_block, execOps, wantedA, S_mv, S_pick, S_bin, S_un, S_call0, S_call1, S_extract, S_nilEq, S_load, S_alloc, S_box, Opd.ev, lookupE, setE, St.put, binA, unA, boolOf, freezeVs, freezeV, freeze1, isP, isPs, resultsA, resultA, finish, old, olds, flat, movedH_same, Nat.min_self, loadA, readCells, cellsV, r1, r2, r3, lookE_setE]
  · rw [r4]; simp [F123, callBody, zipE, execL_seq, execL_region, execL_cond, execL_skip, execL_ret, execL_exit, execL_block, execOps, wantedA, S_mv, S_pick, S_bin, S_un, S_call0, S_call1, S_extract, S_nilEq, S_load, S_alloc, S_box, Opd.ev, lookupE, setE, St.put, binA, unA, boolOf, freezeVs, freezeV, freeze1, isP, isPs, resultsA, resultA, finish, old, olds, flat, movedH_same, Nat.min_self, loadA, readCells, cellsV, r1, r2, r3, r5, lookE_setE]

/-! ### symbol -/
def symF (r : List UInt8) : List (List UInt8) → Nat
  | [] => 0
  | w :: ws => if pre r w then w.length else symF r ws
theorem symF_two (r : List UInt8) (vs : List (List UInt8)) : ∀ (ws : List (List UInt8)), (∀ w ∈ ws, w.length = 2) → symF r (ws ++ vs) = if ws.any (pre r) then 2 else symF r vs
  | [], _ => rfl
  | w :: ws, h => by
    have ih := symF_two r vs ws (fun w hw => h w (by simp [hw]))
    have hw2 := h w (by simp)
    simp only [List.cons_append, symF]
    by_cases hp : pre r w = true
    · have ea : (w :: ws).any (pre r) = true := by simp [hp]
      rw [if_pos hp, if_pos ea, hw2]
    · have ea : (w :: ws).any (pre r) = ws.any (pre r) := by simp [hp]
      rw [if_neg hp, ih, ea]
def headIn (cs : List UInt8) : List UInt8 → Nat
  | [] => 0
  | c :: _ => if cs.contains c then 1 else 0
theorem symF_one (r : List UInt8) : ∀ (cs : List UInt8), symF r (cs.map fun c => [c]) = headIn cs r
  | [] => by cases r <;> rfl
  | d :: cs => by
    have ih := symF_one r cs
    simp only [List.map_cons, symF]
    rw [ih]
    cases r with
    | nil => rfl
    | cons c r =>
      have e : pre (c :: r) [d] = (c == d) := by
        unfold pre
        simp only [List.length_cons, List.length_nil, Nat.zero_add, List.take_succ_cons, List.take_zero]
        rw [Bool.eq_iff_iff]; simp
      simp only [e, headIn, List.contains_cons]
      by_cases hcd : c = d
      · subst hcd; simp
      · have : (c == d) = false := by simp [hcd]
        rw [this]; simp
theorem symF_sym (r : List UInt8) : symF r syms = sym r := by
  unfold syms
  rw [symF_two r _ two (by decide), symF_one]
  cases r <;> rfl

theorem pre_at {s w : List UInt8} {k : Nat} (hk : k ≤ s.length) : (decide (k + w.length ≤ s.length) && ((s.take (k + w.length)).drop k == w)) = pre (s.drop k) w := by
  unfold pre
  have e : (s.take (k + w.length)).drop k = (s.drop k).take w.length := by rw [List.drop_take]; congr 1; omega
  rw [e]
  by_cases h : k + w.length ≤ s.length
  · simp [h]
  · have : ((s.drop k).take w.length == w) = false := by
      rw [Bool.eq_false_iff]; intro hh
      have := congrArg List.length (eq_of_beq hh)
      simp at this; omega
    rw [this]; simp

set_option maxHeartbeats 1000000 in
theorem symbol2_loop {s : List UInt8} {at0 : Nat} {H : Heap} (hl : s.length < 4611686018427387904) (hat : at0 ≤ s.length) :
    ∀ (r : List (List UInt8)) (k : Nat) (st : St), syms.drop k = r → k ≤ syms.length → st.H = H → st.low = H.length → lookupE st.vE 0 = .str s → lookupE st.vE 1 = .int .i64 at0 → lookupE st.vE 5 = .list 1 (syms.map .str) → lookupE st.vE 6 = .int .i64 k →
      ∃ y st', execL tab (.loop F125L0) st = some (y, st') ∧ st'.H = H ∧ st'.low = H.length ∧ ((y = .exit 0 ∧ symF (s.drop at0) r = 0) ∨ (y = .ret ∧ lookupE st'.vE 4 = .int .i64 (symF (s.drop at0) r)))
  | [], k, st, hr, hk, h1, h2, h3, h4, h5, h6 => by
    have hle := drop_nil hr
    have hn : ¬ (k : Int) < (syms.length : Int) := by omega
    have hsl : slE 1 (V.list 1 (syms.map .str)) = true := rfl
    have hel : (el (V.list 1 (syms.map .str))).length = syms.length := by simp [el]
    rw [execL_loop]
    refine ⟨.exit 0, _, by simp [F125L0, callBody, zipE, execL_seq, execL_region, execL_cond, execL_skip, execL_ret, execL_exit, execL_block, execOps, wantedA, S_mv, S_pick, S_bin, S_un, S_call0, S_call1, S_extract, S_nilEq, S_load, S_alloc, S_box, Opd.ev, lookupE, lookE_setE, St.put, binA, unA, boolOf, freezeVs, freezeV, freeze1, isP, isPs, resultsA, resultA, finish, old, olds, flat, movedH_same, Nat.min_self, loadA, readCells, cellsV, S_len 1, hsl, hel, h1, h2, h3, h4, h5, h6, hn]; rfl, ?_⟩
    exact ⟨by simp, by simp, .inl ⟨rfl, rfl⟩⟩
  | w :: r, k, st, hr, hk, h1, h2, h3, h4, h5, h6 => by
    obtain ⟨g1, g2, g3⟩ := drop_cons hr
    have hn : (k : Int) < (syms.length : Int) := by omega
    have hsl : slE 1 (V.list 1 (syms.map .str)) = true := rfl
    have hel : (el (V.list 1 (syms.map .str))).length = syms.length := by simp [el]
    have hg : (el (V.list 1 (syms.map .str)))[k]? = some (.str w) := by simp [el, g1]
    have hsy : syms.length = 18 := by decide
    have hw : IntKind.i64.wrap ((k : Int) + 1) = ((k + 1 : Nat) : Int) := by rw [wrap_small] <;> omega
    have hwl : w.length ≤ 2 := by
      have h2 : ∀ w ∈ syms, w.length ≤ 2 := by decide
      exact h2 w (List.mem_of_getElem? g1)
    have hw2 : IntKind.i64.wrap ((at0 : Int) + (w.length : Int)) = ((at0 + w.length : Nat) : Int) := by rw [wrap_small] <;> omega
    have hp := pre_at (w := w) hat
    rw [execL_loop]
    by_cases hle : at0 + w.length ≤ s.length
    · have hle' : ((at0 + w.length : Nat) : Int) ≤ (s.length : Int) := by omega
      have hal : at0 ≤ at0 + w.length := by omega
      rw [show decide (at0 + w.length ≤ s.length) = true by simp [hle], Bool.true_and] at hp
      cases hx : pre (s.drop at0) w with
      | true =>
        rw [hx] at hp
        have hf : symF (s.drop at0) (w :: r) = w.length := by simp only [symF, hx, if_true]
        rw [hf]
        refine ⟨.ret, _, by simp [F125L0, callBody, zipE, execL_seq, execL_region, execL_cond, execL_skip, execL_ret, execL_exit, execL_block, execOps, wantedA, S_mv, S_pick, S_bin, S_un, S_call0, S_call1, S_extract, S_nilEq, S_load, S_alloc, S_box, Opd.ev, lookupE, lookE_setE, St.put, binA, unA, boolOf, freezeVs, freezeV, freeze1, isP, isPs, resultsA, resultA, finish, old, olds, flat, movedH_same, Nat.min_self, loadA, readCells, cellsV, S_len 1, S_len0, S_index, S_sliceS, bnd, hsl, hel, hg, h1, h2, h3, h4, h5, h6, hn, hw2, hle, hle', hp, inOrder, -List.getElem?_map, -Int.natCast_add]; rfl, ?_⟩
        exact ⟨by simp, by simp, .inr ⟨rfl, by simp [lookE_setE]⟩⟩
      | false =>
        rw [hx] at hp
        have hf : symF (s.drop at0) (w :: r) = symF (s.drop at0) r := by simp [symF, hx]
        rw [hf]
        have hstep : ∃ st1, execL tab F125L0 st = some (.normal, st1) ∧ st1.H = H ∧ st1.low = H.length ∧ lookupE st1.vE 0 = .str s ∧ lookupE st1.vE 1 = .int .i64 at0 ∧ lookupE st1.vE 5 = .list 1 (syms.map .str) ∧ lookupE st1.vE 6 = .int .i64 ((k + 1 : Nat) : Int) := by
          refine ⟨_, by simp [F125L0, callBody, zipE, execL_seq, execL_region, execL_cond, execL_skip, execL_ret, execL_exit, execL_block, execOps, wantedA, S_mv, S_pick, S_bin, S_un, S_call0, S_call1, S_extract, S_nilEq, S_load, S_alloc, S_box, Opd.ev, lookupE, lookE_setE, St.put, binA, unA, boolOf, freezeVs, freezeV, freeze1, isP, isPs, resultsA, resultA, finish, old, olds, flat, movedH_same, Nat.min_self, loadA, readCells, cellsV, S_len 1, S_len0, S_index, S_sliceS, bnd, hsl, hel, hg, h1, h2, h3, h4, h5, h6, hn, hw, hw2, hle, hle', hp, inOrder, -List.getElem?_map, -Int.natCast_add]; rfl, ?_⟩
          simp [lookE_setE, h1, h2, h3, h4, h5]
        obtain ⟨st1, q1, q2, q3, q4, q5, q6, q7⟩ := hstep
        obtain ⟨y, st', r1, r2, r3, r4⟩ := symbol2_loop hl hat r (k + 1) st1 g2 (by omega) q2 q3 q4 q5 q6 q7
        exact ⟨y, st', by rw [q1]; exact r1, r2, r3, r4⟩
    · have hle' : ¬ ((at0 + w.length : Nat) : Int) ≤ (s.length : Int) := by omega
      rw [show decide (at0 + w.length ≤ s.length) = false by simp [hle], Bool.false_and] at hp
      have hf : symF (s.drop at0) (w :: r) = symF (s.drop at0) r := by simp [symF, ← hp]
      rw [hf]
      have hstep : ∃ st1, execL tab F125L0 st = some (.normal, st1) ∧ st1.H = H ∧ st1.low = H.length ∧ lookupE st1.vE 0 = .str s ∧ lookupE st1.vE 1 = .int .i64 at0 ∧ lookupE st1.vE 5 = .list 1 (syms.map .str) ∧ lookupE st1.vE 6 = .int .i64 ((k + 1 : Nat) : Int) := by
        refine ⟨_, by simp [F125L0, callBody, zipE, execL_seq, execL_region, execL_cond, execL_skip, execL_ret, execL_exit, execL_block, execOps, wantedA, S_mv, S_pick, S_bin, S_un, S_call0, S_call1, S_extract, S_nilEq, S_load, S_alloc, S_box, Opd.ev, lookupE, lookE_setE, St.put, binA, unA, boolOf, freezeVs, freezeV, freeze1, isP, isPs, resultsA, resultA, finish, old, olds, flat, movedH_same, Nat.min_self, loadA, readCells, cellsV, S_len 1, S_len0, S_index, S_sliceS, bnd, hsl, hel, hg, h1, h2, h3, h4, h5, h6, hn, hw, hw2, hle, hle', inOrder, -List.getElem?_map, -Int.natCast_add]; rfl, ?_⟩
        simp [lookE_setE, h1, h2, h3, h4, h5]
      obtain ⟨st1, q1, q2, q3, q4, q5, q6, q7⟩ := hstep
      obtain ⟨y, st', r1, r2, r3, r4⟩ := symbol2_loop hl hat r (k + 1) st1 g2 (by omega) q2 q3 q4 q5 q6 q7
      exact ⟨y, st', by rw [q1]; exact r1, r2, r3, r4⟩

theorem symbol2_s {s : List UInt8} {at0 : Nat} {H : Heap} (hl : s.length < 4611686018427387904) (hat : at0 ≤ s.length) : Ans (.fn 125 [] []) [.str s, .int .i64 at0] H (.int .i64 (sym (s.drop at0))) := by
  have hsy := symbols2_s H
  unfold Ans at *
  rw [callL_fn, show tab 125 = some (.code F125) from rfl]
  obtain ⟨y, st', r1, r2, r3, r4⟩ := symbol2_loop (H := H) hl hat syms 0 { tE := [], vE := [(0, .str s), (1, .int .i64 at0), (4, .int .i64 0), (5, .list 1 (syms.map .str)), (6, .int .i64 0)], H := H, low := H.length } rfl (Nat.zero_le _) rfl rfl rfl rfl rfl rfl
  rw [symF_sym] at r4
  rcases r4 with ⟨rfl, r4⟩ | ⟨rfl, r4⟩
  · rw [r4]; simp [F125, callBody, zipE, execL_seq, execL_region, execL_cond, execL_skip, execL_ret, execL_exit, execL_block, execOps, wantedA, S_mv, S_pick, S_bin, S_un, S_call0, S_call1, S_extract, S_nilEq, S_load, S_alloc, S_box, Opd.ev, lookupE, setE, St.put, binA, unA, boolOf, freezeVs, freezeV, freeze1, isP, isPs, resultsA, resultA, finish, old, olds, flat, movedH_same, Nat.min_self, loadA, readCells, cellsV, hsy, r1, r2, r3, lookE_setE]
  · simp [F125, callBody, zipE, execL_seq, execL_region, execL_cond, execL_skip, execL_ret, execL_exit, execL_block, execOps, wantedA, S_mv, S_pick, S_bin, S_un, S_call0, S_call1, S_extract, S_nilEq, S_load, S_alloc, S_box, Opd.ev, lookupE, setE, St.put, binA, unA, boolOf, freezeVs, freezeV, freeze1, isP, isPs, resultsA, resultA, finish, old, olds, flat, movedH_same, Nat.min_self, loadA, readCells, cellsV, hsy, r1, r2, r3, r4, lookE_setE]
end Go.Abs.T09
/- The reference's lexer: one token. -/
namespace Go.Abs.T09
open Go Go.Abs

section
variable {s : List UInt8} {H : Heap}

set_option maxHeartbeats 1000000 in
theorem t2_loop0 (hl : s.length < 4611686018427387904) :
    ∀ (r : List UInt8) (k : Nat) (st : St), s.drop k = r → k ≤ s.length → st.H = H → st.low = H.length → lookupE st.vE 0 = .str s → lookupE st.vE 6 = .int .i64 k →
      ∃ st', execL tab (.loop F109L0) st = some (.exit 0, st') ∧ st'.H = H ∧ st'.low = H.length ∧ lookupE st'.vE 6 = .int .i64 ((k + runLen isPt r : Nat) : Int) ∧ ∀ t, t < 6 → lookupE st'.vE t = lookupE st.vE t
  | [], k, st, hr, hk, h1, h2, h3, h5 => by
    have hle := drop_nil hr
    have hn : ¬ (k : Int) < (s.length : Int) := by omega
    rw [execL_loop]
    refine ⟨_, by simp [F109L0, callBody, zipE, execL_seq, execL_region, execL_cond, execL_skip, execL_ret, execL_exit, execL_block, execOps, wantedA, S_mv, S_pick, S_bin, S_un, S_call0, S_call1, S_extract, S_nilEq, S_load, S_alloc, S_box, Opd.ev, lookupE, lookE_setE, St.put, binA, unA, boolOf, freezeVs, freezeV, freeze1, isP, isPs, resultsA, resultA, finish, old, olds, flat, movedH_same, Nat.min_self, loadA, readCells, cellsV, S_len0, h1, h2, h3, h5, hn]; rfl, ?_⟩
    exact ⟨by simp, by simp, by simp [lookE_setE, h5, runLen], fun t ht => by simp [lookE_setE, show t ≠ 34 by omega]⟩
  | c :: r, k, st, hr, hk, h1, h2, h3, h5 => by
    obtain ⟨g1, g2, g3⟩ := drop_cons hr
    have hn : (k : Int) < (s.length : Int) := by omega
    have c1 := letter2_s c H
    have c2 := digit2_s c H
    unfold Ans bv at c1 c2
    have hg : ∀ h : k < s.length, s[k]'h = c := fun h => by rw [List.getElem?_eq_getElem h] at g1; exact Option.some.inj g1
    have hw : IntKind.i64.wrap ((k : Int) + 1) = ((k + 1 : Nat) : Int) := by rw [wrap_small] <;> omega
    have e95 : ((c.toNat : Int) == 95) = (c.toNat == 95) := beqI c 95
    rw [runLen_cons]
    have fin : ∀ b : Bool, isPt c = b → (∃ st1, execL tab F109L0 st = some (if b then .normal else .exit 0, st1) ∧ st1.H = H ∧ st1.low = H.length ∧ lookupE st1.vE 6 = .int .i64 ((k + (if b then 1 else 0) : Nat) : Int) ∧ ∀ t, t < 6 → lookupE st1.vE t = lookupE st.vE t) →
        ∃ st', execL tab (.loop F109L0) st = some (.exit 0, st') ∧ st'.H = H ∧ st'.low = H.length ∧ lookupE st'.vE 6 = .int .i64 ((k + (if isPt c then runLen isPt r + 1 else 0) : Nat) : Int) ∧ ∀ t, t < 6 → lookupE st'.vE t = lookupE st.vE t := by
      intro b hb hs
      obtain ⟨st1, q1, q2, q3, q4, q5⟩ := hs
      rw [hb, execL_loop, q1]
      cases b with
      | false => exact ⟨st1, rfl, q2, q3, q4, q5⟩
      | true =>
        obtain ⟨st', r1, r2, r3, r4, r5⟩ := t2_loop0 hl r (k + 1) st1 g2 (by omega) q2 q3 (by rw [q5 0 (by decide)]; exact h3) (by simpa using q4)
        refine ⟨st', r1, r2, r3, ?_, fun t ht => (r5 t ht).trans (q5 t ht)⟩
        rw [r4]; simp; omega
    cases a1 : isL c with
    | true =>
      rw [a1] at c1
      refine fin true (by simp [isPt, a1]) ⟨_, by simp [F109L0, callBody, zipE, execL_seq, execL_region, execL_cond, execL_skip, execL_ret, execL_exit, execL_block, execOps, wantedA, S_mv, S_pick, S_bin, S_un, S_call0, S_call1, S_extract, S_nilEq, S_load, S_alloc, S_box, Opd.ev, lookupE, lookE_setE, St.put, binA, unA, boolOf, freezeVs, freezeV, freeze1, isP, isPs, resultsA, resultA, finish, old, olds, flat, movedH_same, Nat.min_self, loadA, readCells, cellsV, S_len0, S_indexS, h1, h2, h3, h5, hn, hg, g3, c1, hw]; rfl, ?_⟩
      exact ⟨by simp, by simp, by simp [lookE_setE], fun t ht => by simp [lookE_setE, show t ≠ 34 by omega, show t ≠ 6 by omega]⟩
    | false =>
      rw [a1] at c1
      cases a2 : isD c with
      | true =>
        rw [a2] at c2
        refine fin true (by simp [isPt, a2]) ⟨_, by simp [F109L0, callBody, zipE, execL_seq, execL_region, execL_cond, execL_skip, execL_ret, execL_exit, execL_block, execOps, wantedA, S_mv, S_pick, S_bin, S_un, S_call0, S_call1, S_extract, S_nilEq, S_load, S_alloc, S_box, Opd.ev, lookupE, lookE_setE, St.put, binA, unA, boolOf, freezeVs, freezeV, freeze1, isP, isPs, resultsA, resultA, finish, old, olds, flat, movedH_same, Nat.min_self, loadA, readCells, cellsV, S_len0, S_indexS, h1, h2, h3, h5, hn, hg, g3, c1, c2, hw]; rfl, ?_⟩
        exact ⟨by simp, by simp, by simp [lookE_setE], fun t ht => by simp [lookE_setE, show t ≠ 34 by omega, show t ≠ 6 by omega]⟩
      | false =>
        rw [a2] at c2
        cases a3 : (c.toNat == 95) with
        | true =>
          refine fin true (by simp only [isPt, a3, Bool.or_true]) ⟨_, by simp [F109L0, callBody, zipE, execL_seq, execL_region, execL_cond, execL_skip, execL_ret, execL_exit, execL_block, execOps, wantedA, S_mv, S_pick, S_bin, S_un, S_call0, S_call1, S_extract, S_nilEq, S_load, S_alloc, S_box, Opd.ev, lookupE, lookE_setE, St.put, binA, unA, boolOf, freezeVs, freezeV, freeze1, isP, isPs, resultsA, resultA, finish, old, olds, flat, movedH_same, Nat.min_self, loadA, readCells, cellsV, S_len0, S_indexS, h1, h2, h3, h5, hn, hg, g3, c1, c2, e95, a3, hw]; rfl, ?_⟩
          exact ⟨by simp, by simp, by simp [lookE_setE], fun t ht => by simp [lookE_setE, show t ≠ 34 by omega, show t ≠ 6 by omega]⟩
        | false =>
          refine fin false (by simp only [isPt, a1, a2, a3, Bool.or_false]) ⟨_, by simp [F109L0, callBody, zipE, execL_seq, execL_region, execL_cond, execL_skip, execL_ret, execL_exit, execL_block, execOps, wantedA, S_mv, S_pick, S_bin, S_un, S_call0, S_call1, S_extract, S_nilEq, S_load, S_alloc, S_box, Opd.ev, lookupE, lookE_setE, St.put, binA, unA, boolOf, freezeVs, freezeV, freeze1, isP, isPs, resultsA, resultA, finish, old, olds, flat, movedH_same, Nat.min_self, loadA, readCells, cellsV, S_len0, S_indexS, h1, h2, h3, h5, hn, hg, g3, c1, c2, e95, a3]; rfl, ?_⟩
          exact ⟨by simp, by simp, by simp [lookE_setE, h5], fun t ht => by simp [lookE_setE, show t ≠ 34 by omega]⟩

set_option maxHeartbeats 1000000 in
theorem t2_loop1 (hl : s.length < 4611686018427387904) :
    ∀ (r : List UInt8) (k : Nat) (st : St), s.drop k = r → k ≤ s.length → st.H = H → st.low = H.length → lookupE st.vE 0 = .str s → lookupE st.vE 6 = .int .i64 k →
      ∃ st', execL tab (.loop F109L1) st = some (.exit 2, st') ∧ st'.H = H ∧ st'.low = H.length ∧ lookupE st'.vE 6 = .int .i64 ((k + runLen isD r : Nat) : Int)
  | [], k, st, hr, hk, h1, h2, h3, h5 => by
    have hle := drop_nil hr
    have hn : ¬ (k : Int) < (s.length : Int) := by omega
    rw [execL_loop]
    refine ⟨_, by simp [F109L1, callBody, zipE, execL_seq, execL_region, execL_cond, execL_skip, execL_ret, execL_exit, execL_block, execOps, wantedA, S_mv, S_pick, S_bin, S_un, S_call0, S_call1, S_extract, S_nilEq, S_load, S_alloc, S_box, Opd.ev, lookupE, lookE_setE, St.put, binA, unA, boolOf, freezeVs, freezeV, freeze1, isP, isPs, resultsA, resultA, finish, old, olds, flat, movedH_same, Nat.min_self, loadA, readCells, cellsV, S_len0, h1, h2, h3, h5, hn]; rfl, ?_⟩
    simp [lookE_setE, h1, h2, h5, runLen]
  | c :: r, k, st, hr, hk, h1, h2, h3, h5 => by
    obtain ⟨g1, g2, g3⟩ := drop_cons hr
    have hn : (k : Int) < (s.length : Int) := by omega
    have c2 := digit2_s c H
    unfold Ans bv at c2
    have hg : ∀ h : k < s.length, s[k]'h = c := fun h => by rw [List.getElem?_eq_getElem h] at g1; exact Option.some.inj g1
    have hw : IntKind.i64.wrap ((k : Int) + 1) = ((k + 1 : Nat) : Int) := by rw [wrap_small] <;> omega
    rw [runLen_cons]
    cases a2 : isD c with
    | false =>
      rw [a2] at c2
      rw [execL_loop]
      refine ⟨_, by simp [F109L1, callBody, zipE, execL_seq, execL_region, execL_cond, execL_skip, execL_ret, execL_exit, execL_block, execOps, wantedA, S_mv, S_pick, S_bin, S_un, S_call0, S_call1, S_extract, S_nilEq, S_load, S_alloc, S_box, Opd.ev, lookupE, lookE_setE, St.put, binA, unA, boolOf, freezeVs, freezeV, freeze1, isP, isPs, resultsA, resultA, finish, old, olds, flat, movedH_same, Nat.min_self, loadA, readCells, cellsV, S_len0, S_indexS, h1, h2, h3, h5, hn, hg, g3, c2]; rfl, ?_⟩
      simp [lookE_setE, h1, h2, h5]
    | true =>
      rw [a2] at c2
      have hstep : ∃ st1, execL tab F109L1 st = some (.normal, st1) ∧ st1.H = H ∧ st1.low = H.length ∧ lookupE st1.vE 0 = .str s ∧ lookupE st1.vE 6 = .int .i64 ((k + 1 : Nat) : Int) := by
        refine ⟨_, by simp [F109L1, callBody, zipE, execL_seq, execL_region, execL_cond, execL_skip, execL_ret, execL_exit, execL_block, execOps, wantedA, S_mv, S_pick, S_bin, S_un, S_call0, S_call1, S_extract, S_nilEq, S_load, S_alloc, S_box, Opd.ev, lookupE, lookE_setE, St.put, binA, unA, boolOf, freezeVs, freezeV, freeze1, isP, isPs, resultsA, resultA, finish, old, olds, flat, movedH_same, Nat.min_self, loadA, readCells, cellsV, S_len0, S_indexS, h1, h2, h3, h5, hn, hg, g3, c2, hw]; rfl, ?_⟩
        simp [lookE_setE, h1, h2, h3]
      obtain ⟨st1, q1, q2, q3, q4, q5⟩ := hstep
      rw [execL_loop, q1]
      obtain ⟨st', r1, r2, r3, r4⟩ := t2_loop1 hl r (k + 1) st1 g2 (by omega) q2 q3 q4 q5
      refine ⟨st', r1, r2, r3, ?_⟩
      rw [r4]; simp; omega

set_option maxHeartbeats 2000000 in
theorem t2_loop2 (hl : s.length < 4611686018427387904) :
    ∀ (r : List UInt8) (k : Nat) (st : St), s.drop k = r → k ≤ s.length → st.H = H → st.low = H.length → lookupE st.vE 0 = .str s → lookupE st.vE 6 = .int .i64 k →
      ∃ st', execL tab (.loop F109L2) st = some (.exit 4, st') ∧ st'.H = H ∧ st'.low = H.length ∧ lookupE st'.vE 6 = .int .i64 ((k + wrongL r : Nat) : Int)
  | [], k, st, hr, hk, h1, h2, h3, h5 => by
    have hle := drop_nil hr
    have hn : ¬ (k : Int) < (s.length : Int) := by omega
    rw [execL_loop]
    refine ⟨_, by simp [F109L2, callBody, zipE, execL_seq, execL_region, execL_cond, execL_skip, execL_ret, execL_exit, execL_block, execOps, wantedA, S_mv, S_pick, S_bin, S_un, S_call0, S_call1, S_extract, S_nilEq, S_load, S_alloc, S_box, Opd.ev, lookupE, lookE_setE, St.put, binA, unA, boolOf, freezeVs, freezeV, freeze1, isP, isPs, resultsA, resultA, finish, old, olds, flat, movedH_same, Nat.min_self, loadA, readCells, cellsV, S_len0, h1, h2, h3, h5, hn]; rfl, ?_⟩
    simp [lookE_setE, h1, h2, h5, wrongL]
  | c :: r, k, st, hr, hk, h1, h2, h3, h5 => by
    obtain ⟨g1, g2, g3⟩ := drop_cons hr
    have hn : (k : Int) < (s.length : Int) := by omega
    have c0 := white2_s c H
    have c1 := letter2_s c H
    have c2 := digit2_s c H
    have c3 := symbol2_s (at0 := k) (H := H) hl hk
    unfold Ans at c0 c1 c2 c3
    unfold bv at c0 c1 c2
    rw [hr] at c3
    have hg : ∀ h : k < s.length, s[k]'h = c := fun h => by rw [List.getElem?_eq_getElem h] at g1; exact Option.some.inj g1
    have hw : IntKind.i64.wrap ((k : Int) + 1) = ((k + 1 : Nat) : Int) := by rw [wrap_small] <;> omega
    have e35 : ((c.toNat : Int) != 35) = !(c.toNat == 35) := by simp only [bne, show ((c.toNat : Int) == 35) = (c.toNat == 35) from beqI c 35]
    have stop : (isW c || c.toNat == 35 || beg (c :: r)) = true → (∃ st1, execL tab F109L2 st = some (.exit 4, st1) ∧ st1.H = H ∧ st1.low = H.length ∧ lookupE st1.vE 6 = .int .i64 k) →
        ∃ st', execL tab (.loop F109L2) st = some (.exit 4, st') ∧ st'.H = H ∧ st'.low = H.length ∧ lookupE st'.vE 6 = .int .i64 ((k + wrongL (c :: r) : Nat) : Int) := by
      rintro hb ⟨st1, q1, q2, q3, q4⟩
      have hz : wrongL (c :: r) = 0 := by simp only [wrongL, hb, if_true]
      rw [execL_loop, q1, hz]
      exact ⟨st1, rfl, q2, q3, q4⟩
    cases a0 : isW c with
    | true =>
      rw [a0] at c0
      exact stop (by simp [a0]) ⟨_, by simp [F109L2, callBody, zipE, execL_seq, execL_region, execL_cond, execL_skip, execL_ret, execL_exit, execL_block, execOps, wantedA, S_mv, S_pick, S_bin, S_un, S_call0, S_call1, S_extract, S_nilEq, S_load, S_alloc, S_box, Opd.ev, lookupE, lookE_setE, St.put, binA, unA, boolOf, freezeVs, freezeV, freeze1, isP, isPs, resultsA, resultA, finish, old, olds, flat, movedH_same, Nat.min_self, loadA, readCells, cellsV, S_len0, S_indexS, h1, h2, h3, h5, hn, hg, g3, c0]; rfl, by simp, by simp, by simp [lookE_setE, h5]⟩
    | false =>
      rw [a0] at c0
      cases b0 : (c.toNat == 35) with
      | true => exact stop (by rw [b0]; simp) ⟨_, by simp [F109L2, callBody, zipE, execL_seq, execL_region, execL_cond, execL_skip, execL_ret, execL_exit, execL_block, execOps, wantedA, S_mv, S_pick, S_bin, S_un, S_call0, S_call1, S_extract, S_nilEq, S_load, S_alloc, S_box, Opd.ev, lookupE, lookE_setE, St.put, binA, unA, boolOf, freezeVs, freezeV, freeze1, isP, isPs, resultsA, resultA, finish, old, olds, flat, movedH_same, Nat.min_self, loadA, readCells, cellsV, S_len0, S_indexS, h1, h2, h3, h5, hn, hg, g3, c0, e35, b0]; rfl, by simp, by simp, by simp [lookE_setE, h5]⟩
      | false =>
        cases a1 : isL c with
        | true =>
          rw [a1] at c1
          exact stop (by simp [beg, a1]) ⟨_, by simp [F109L2, callBody, zipE, execL_seq, execL_region, execL_cond, execL_skip, execL_ret, execL_exit, execL_block, execOps, wantedA, S_mv, S_pick, S_bin, S_un, S_call0, S_call1, S_extract, S_nilEq, S_load, S_alloc, S_box, Opd.ev, lookupE, lookE_setE, St.put, binA, unA, boolOf, freezeVs, freezeV, freeze1, isP, isPs, resultsA, resultA, finish, old, olds, flat, movedH_same, Nat.min_self, loadA, readCells, cellsV, S_len0, S_indexS, h1, h2, h3, h5, hn, hg, g3, c0, e35, b0, c1]; rfl, by simp, by simp, by simp [lookE_setE, h5]⟩
        | false =>
          rw [a1] at c1
          cases a2 : isD c with
          | true =>
            rw [a2] at c2
            exact stop (by simp [beg, a2]) ⟨_, by simp [F109L2, callBody, zipE, execL_seq, execL_region, execL_cond, execL_skip, execL_ret, execL_exit, execL_block, execOps, wantedA, S_mv, S_pick, S_bin, S_un, S_call0, S_call1, S_extract, S_nilEq, S_load, S_alloc, S_box, Opd.ev, lookupE, lookE_setE, St.put, binA, unA, boolOf, freezeVs, freezeV, freeze1, isP, isPs, resultsA, resultA, finish, old, olds, flat, movedH_same, Nat.min_self, loadA, readCells, cellsV, S_len0, S_indexS, h1, h2, h3, h5, hn, hg, g3, c0, e35, b0, c1, c2]; rfl, by simp, by simp, by simp [lookE_setE, h5]⟩
          | false =>
            rw [a2] at c2
            by_cases a3 : sym (c :: r) = 0
            · have e0 : ((sym (c :: r) : Int) == 0) = true := by simp [a3]
              have hz : wrongL (c :: r) = wrongL r + 1 := by
                have : (isW c || c.toNat == 35 || beg (c :: r)) = false := by simp [a0, b0, beg, a1, a2, a3]
                simp [wrongL, this]
              have hstep : ∃ st1, execL tab F109L2 st = some (.normal, st1) ∧ st1.H = H ∧ st1.low = H.length ∧ lookupE st1.vE 0 = .str s ∧ lookupE st1.vE 6 = .int .i64 ((k + 1 : Nat) : Int) := by
                refine ⟨_, by simp [F109L2, callBody, zipE, execL_seq, execL_region, execL_cond, execL_skip, execL_ret, execL_exit, execL_block, execOps, wantedA, S_mv, S_pick, S_bin, S_un, S_call0, S_call1, S_extract, S_nilEq, S_load, S_alloc, S_box, Opd.ev, lookupE, lookE_setE, St.put, binA, unA, boolOf, freezeVs, freezeV, freeze1, isP, isPs, resultsA, resultA, finish, old, olds, flat, movedH_same, Nat.min_self, loadA, readCells, cellsV, S_len0, S_indexS, h1, h2, h3, h5, hn, hg, g3, c0, e35, b0, c1, c2, c3, e0, hw]; rfl, ?_⟩
                simp [lookE_setE, h1, h2, h3]
              obtain ⟨st1, q1, q2, q3, q4, q5⟩ := hstep
              rw [execL_loop, q1]
              obtain ⟨st', r1, r2, r3, r4⟩ := t2_loop2 hl r (k + 1) st1 g2 (by omega) q2 q3 q4 q5
              refine ⟨st', r1, r2, r3, ?_⟩
              rw [r4, hz]; simp; omega
            · have e0 : ((sym (c :: r) : Int) == 0) = false := by simp; omega
              exact stop (by simp [beg]; right; right; omega) ⟨_, by simp [F109L2, callBody, zipE, execL_seq, execL_region, execL_cond, execL_skip, execL_ret, execL_exit, execL_block, execOps, wantedA, S_mv, S_pick, S_bin, S_un, S_call0, S_call1, S_extract, S_nilEq, S_load, S_alloc, S_box, Opd.ev, lookupE, lookE_setE, St.put, binA, unA, boolOf, freezeVs, freezeV, freeze1, isP, isPs, resultsA, resultA, finish, old, olds, flat, movedH_same, Nat.min_self, loadA, readCells, cellsV, S_len0, S_indexS, h1, h2, h3, h5, hn, hg, g3, c0, e35, b0, c1, c2, c3, e0]; rfl, by simp, by simp, by simp [lookE_setE, h5]⟩

set_option maxHeartbeats 4000000 in
theorem token2_s {at0 : Nat} {c : UInt8} {r : List UInt8} (hl : s.length < 4611686018427387904) (hr : s.drop at0 = c :: r) (hW : isW c = false) (h35 : (c.toNat == 35) = false) :
    Ans (.fn 109 [] []) [.str s, .int .i64 at0] H (.tup [.int .i64 (tokKind (s.drop at0)), .int .i64 ((at0 + tokLen (s.drop at0) : Nat) : Int)]) := by
  obtain ⟨g1, g2, g3⟩ := drop_cons hr
  have hle : at0 ≤ s.length := by omega
  have c1 := letter2_s c H
  have c2 := digit2_s c H
  have c3 := symbol2_s (at0 := at0) (H := H) hl hle
  have c4 := keywords2_s H
  unfold Ans at c1 c2 c3 c4
  unfold bv at c1 c2
  have hg : ∀ h : at0 < s.length, s[at0]'h = c := fun h => by rw [List.getElem?_eq_getElem h] at g1; exact Option.some.inj g1
  have htl := tokLen_le (s.drop at0)
  rw [List.length_drop] at htl
  unfold Ans
  rw [callL_fn, show tab 109 = some (.code F109) from rfl]
  cases a1 : isL c with
  | true =>
    rw [a1] at c1
    obtain ⟨st', r1, r2, r3, r4, r5⟩ := t2_loop0 (H := H) hl (s.drop at0) at0 { tE := [], vE := [(0, .str s), (1, .int .i64 at0), (4, .int .i64 0), (5, .int .i64 0), (6, .int .i64 at0), (12, .bool true)], H := H, low := H.length } rfl hle rfl rfl rfl rfl
    have l0 := r5 0 (by decide)
    have l1 := r5 1 (by decide)
    simp only [lookupE, if_true] at l0
    simp [lookupE] at l1
    have hrl := runLen_le isPt (s.drop at0)
    rw [List.length_drop] at hrl
    have el0 : tokLen (s.drop at0) = runLen isPt (s.drop at0) := by rw [hr]; simp only [tokLen, a1, if_true]
    have ek0 : tokKind (s.drop at0) = if kw.contains ((s.drop at0).take (runLen isPt (s.drop at0))) then 2 else 1 := by rw [hr]; simp only [tokKind, a1, if_true]
    have e : (s.take (at0 + runLen isPt (s.drop at0))).drop at0 = (s.drop at0).take (runLen isPt (s.drop at0)) := by rw [List.drop_take]; congr 1; omega
    have c5 := has_s (l := kw) (x := (s.drop at0).take (runLen isPt (s.drop at0))) (by rw [kw_length]; decide) rfl H
    unfold Ans at c5
    rw [el0, ek0]
    have hip : isP (.list 1 (kw.map .str)) = true := rfl
    generalize runLen isPt (s.drop at0) = n at *
    generalize hwd : (s.drop at0).take n = wd at *
    generalize V.list 1 (kw.map .str) = kl at *
    have hn1 : at0 + n ≤ s.length := by omega
    have hn2 : at0 ≤ at0 + n := by omega
    cases b1 : kw.contains wd with
    | true =>
      rw [b1] at c5
      simp [F109, callBody, zipE, execL_seq, execL_region, execL_cond, execL_skip, execL_ret, execL_exit, execL_block, execOps, wantedA, S_mv, S_pick, S_bin, S_un, S_call0, S_call1, S_extract, S_nilEq, S_load, S_alloc, S_box, Opd.ev, lookupE, setE, St.put, binA, unA, boolOf, freezeVs, freezeV, freeze1, isP, isPs, resultsA, resultA, finish, old, olds, flat, movedH_same, Nat.min_self, loadA, readCells, cellsV, S_indexS, S_sliceS, bnd, hg, g3, c1, r1, r2, r3, r4, l0, l1, c4, hip, c5, e, hn1, hn2, inOrder, lookE_setE, -Int.natCast_add]
    | false =>
      rw [b1] at c5
      simp [F109, callBody, zipE, execL_seq, execL_region, execL_cond, execL_skip, execL_ret, execL_exit, execL_block, execOps, wantedA, S_mv, S_pick, S_bin, S_un, S_call0, S_call1, S_extract, S_nilEq, S_load, S_alloc, S_box, Opd.ev, lookupE, setE, St.put, binA, unA, boolOf, freezeVs, freezeV, freeze1, isP, isPs, resultsA, resultA, finish, old, olds, flat, movedH_same, Nat.min_self, loadA, readCells, cellsV, S_indexS, S_sliceS, bnd, hg, g3, c1, r1, r2, r3, r4, l0, l1, c4, hip, c5, e, hn1, hn2, inOrder, lookE_setE, -Int.natCast_add]
  | false =>
    rw [a1] at c1
    cases a2 : isD c with
    | true =>
      rw [a2] at c2
      obtain ⟨st', r1, r2, r3, r4⟩ := t2_loop1 (H := H) hl (s.drop at0) at0 { tE := [], vE := [(0, .str s), (1, .int .i64 at0), (4, .int .i64 0), (5, .int .i64 0), (6, .int .i64 at0), (12, .bool false), (48, .bool true)], H := H, low := H.length } rfl hle rfl rfl rfl rfl
      have el0 : tokLen (s.drop at0) = runLen isD (s.drop at0) := by rw [hr]; simp only [tokLen, a1, a2, if_true]; rfl
      have ek0 : tokKind (s.drop at0) = 3 := by rw [hr]; simp only [tokKind, a1, a2, if_true]; rfl
      rw [el0, ek0]
      simp [F109, callBody, zipE, execL_seq, execL_region, execL_cond, execL_skip, execL_ret, execL_exit, execL_block, execOps, wantedA, S_mv, S_pick, S_bin, S_un, S_call0, S_call1, S_extract, S_nilEq, S_load, S_alloc, S_box, Opd.ev, lookupE, setE, St.put, binA, unA, boolOf, freezeVs, freezeV, freeze1, isP, isPs, resultsA, resultA, finish, old, olds, flat, movedH_same, Nat.min_self, loadA, readCells, cellsV, S_indexS, hg, g3, c1, c2, r1, r2, r3, r4, lookE_setE, -Int.natCast_add]
    | false =>
      rw [a2] at c2
      by_cases a3 : 0 < sym (s.drop at0)
      · have el0 : tokLen (s.drop at0) = sym (s.drop at0) := by rw [hr] at a3 ⊢; simp only [tokLen, a1, a2, a3, if_true]; rfl
        have ek0 : tokKind (s.drop at0) = 4 := by rw [hr] at a3 ⊢; simp only [tokKind, a1, a2, a3, if_true]; rfl
        rw [el0] at htl
        have hw : IntKind.i64.wrap ((at0 : Int) + (sym (s.drop at0) : Int)) = ((at0 + sym (s.drop at0) : Nat) : Int) := by rw [wrap_small] <;> omega
        rw [el0, ek0]
        simp [F109, callBody, zipE, execL_seq, execL_region, execL_cond, execL_skip, execL_ret, execL_exit, execL_block, execOps, wantedA, S_mv, S_pick, S_bin, S_un, S_call0, S_call1, S_extract, S_nilEq, S_load, S_alloc, S_box, Opd.ev, lookupE, setE, St.put, binA, unA, boolOf, freezeVs, freezeV, freeze1, isP, isPs, resultsA, resultA, finish, old, olds, flat, movedH_same, Nat.min_self, loadA, readCells, cellsV, S_indexS, hg, g3, c1, c2, c3, a3, hw, lookE_setE, -Int.natCast_add]
      · obtain ⟨st', r1, r2, r3, r4⟩ := t2_loop2 (H := H) hl (s.drop at0) at0 { tE := [], vE := [(0, .str s), (1, .int .i64 at0), (4, .int .i64 0), (5, .int .i64 0), (6, .int .i64 at0), (12, .bool false), (48, .bool false), (7, .int .i64 (sym (s.drop at0))), (66, .bool false)], H := H, low := H.length } rfl hle rfl rfl rfl rfl
        have el0 : tokLen (s.drop at0) = wrongL (s.drop at0) := by
          rw [hr] at a3 ⊢
          have : (isW c || c.toNat == 35 || beg (c :: r)) = false := by simp [hW, h35, beg, a1, a2]; omega
          simp only [tokLen, a1, a2, a3, if_false, wrongL, this]; rfl
        have ek0 : tokKind (s.drop at0) = 5 := by rw [hr] at a3 ⊢; simp only [tokKind, a1, a2, a3, if_false]; rfl
        rw [el0, ek0]
        simp [F109, callBody, zipE, execL_seq, execL_region, execL_cond, execL_skip, execL_ret, execL_exit, execL_block, execOps, wantedA, S_mv, S_pick, S_bin, S_un, S_call0, S_call1, S_extract, S_nilEq, S_load, S_alloc, S_box, Opd.ev, lookupE, setE, St.put, binA, unA, boolOf, freezeVs, freezeV, freeze1, isP, isPs, resultsA, resultA, finish, old, olds, flat, movedH_same, Nat.min_self, loadA, readCells, cellsV, S_indexS, hg, g3, c1, c2, c3, a3, r1, r2, r3, r4, lookE_setE, -Int.natCast_add]
end

theorem skipL_head : ∀ (s : List UInt8) (c : UInt8) (r : List UInt8), (s.drop (skipL false s) = c :: r → isW c = false ∧ (c.toNat == 35) = false) ∧ (s.drop (skipL true s) = c :: r → isW c = false ∧ (c.toNat == 35) = false)
  | [], c, r => ⟨fun h => by simp [skipL] at h, fun h => by simp [skipL] at h⟩
  | d :: s, c, r => by
    have ih := skipL_head s c r
    constructor
    · intro h
      simp only [skipL] at h
      split at h
      · exact ih.1 (by simpa using h)
      · rename_i hw
        split at h
        · exact ih.2 (by simpa using h)
        · rename_i h35
          simp at h
          obtain ⟨rfl, -⟩ := h
          exact ⟨by simpa using hw, by simpa using h35⟩
    · intro h
      simp only [skipL] at h
      split at h
      · exact ih.2 (by simpa using h)
      · exact ih.1 (by simpa using h)
end Go.Abs.T09
/- The reference's Scan, Kind and Name. -/
namespace Go.Abs.T09
open Go Go.Abs

/-- The tokens from an offset on, and the offset behind them. -/
inductive Scans (s : List UInt8) : Nat → List V → Nat → Prop
  | done (k : Nat) (h : s.length ≤ tokAt s k) : Scans s k [] k
  | step (k : Nat) (ts : List V) (e : Nat) (h : tokAt s k < s.length) (hs : Scans s (tokEnd s k) ts e) : Scans s k (.agg (tokV s k) :: ts) e

/-- A row of tokens that grows. -/
def OutE (n0 : Nat) (H : Heap) (v : V) (l : List V) : Prop := (l = [] ∧ v = .emp) ∨ (l ≠ [] ∧ ∃ q, n0 ≤ q ∧ v = .sref q 4 0 l.length l.length ∧ H[q]? = some (.row 4 l false))

theorem tokLen_pos {c : UInt8} {r : List UInt8} : 1 ≤ tokLen (c :: r) := by
  simp only [tokLen]
  split
  · rename_i h
    rw [runLen_cons, if_pos (by simp [isPt, h])]; omega
  · split
    · rename_i h
      rw [runLen_cons, if_pos h]; omega
    · split <;> omega

theorem tok_there {s : List UInt8} {k : Nat} (h : tokAt s k < s.length) : ∃ c r, s.drop (tokAt s k) = c :: r ∧ isW c = false ∧ (c.toNat == 35) = false := by
  have e : s.drop (tokAt s k) = (s.drop k).drop (skipL false (s.drop k)) := by rw [List.drop_drop]; rfl
  cases hr : s.drop (tokAt s k) with
  | nil => have := drop_nil hr; omega
  | cons c r =>
    refine ⟨c, r, rfl, ?_⟩
    rw [e] at hr
    exact (skipL_head (s.drop k) c r).1 hr

def F92Pa : ACode := .seq (.region [⟨some (13, false), .mv (.var 0), none⟩, ⟨some (14, false), .mv (.var 5), none⟩, ⟨some (15, false), .call false (.func 108) [(.tmp 13), (.tmp 14)], none⟩, ⟨some (16, false), .mv (.var 0), none⟩, ⟨some (17, false), .len 0 (.tmp 16), none⟩, ⟨some (18, true), .bin .lss (.tmp 15) (.tmp 17), none⟩] none) (.cond (.var 18) (.skip) (.exit 0))
def F92Pb : ACode := .block 1 (.seq (.region [⟨some (19, false), .mv (.var 0), none⟩, ⟨some (20, false), .mv (.var 5), none⟩, ⟨some (21, false), .call false (.func 108) [(.tmp 19), (.tmp 20)], none⟩, ⟨some (6, true), .mv (.tmp 21), none⟩] none) (.seq (.region [⟨some (23, false), .mv (.var 0), none⟩, ⟨some (24, false), .mv (.var 6), none⟩, ⟨some (25, false), .call false (.func 109) [(.tmp 23), (.tmp 24)], none⟩, ⟨some (22, false), .mv (.tmp 25), none⟩, ⟨some (26, false), .extract (.tmp 22) 0, none⟩, ⟨some (27, false), .extract (.tmp 22) 1, none⟩, ⟨some (7, true), .mv (.tmp 26), none⟩, ⟨some (8, true), .mv (.tmp 27), none⟩] none) (.seq (.region [⟨some (28, false), .mv (.var 4), none⟩, ⟨some (29, false), .mv (.var 7), none⟩, ⟨some (30, false), .mv (.var 5), none⟩, ⟨some (31, false), .mv (.var 6), none⟩, ⟨some (32, false), .mv (.var 8), none⟩, ⟨some (33, false), .build [.int .i64 0, .int .i64 0, .int .i64 0, .int .i64 0] [(0, 1, (.tmp 29)), (1, 1, (.tmp 30)), (2, 1, (.tmp 31)), (3, 1, (.tmp 32))], none⟩, ⟨some (34, false), .lit 4 [.int .i64 0, .int .i64 0, .int .i64 0, .int .i64 0] 1 [(0, (.tmp 33))] true, none⟩, ⟨some (35, false), .append 4 32 (.tmp 28) (.tmp 34), none⟩, ⟨some (4, true), .mv (.tmp 35), none⟩] none) (.region [⟨some (36, false), .mv (.var 8), none⟩, ⟨some (5, true), .mv (.tmp 36), none⟩] none))))
theorem F92L0_parts : F92L0 = .seq F92Pa (F92Pb) := rfl

section
variable {s : List UInt8} {n : Nat}

set_option maxHeartbeats 2000000 in
theorem scan_step {k : Nat} {st : St} {l : List V} (hl : s.length ≤ 4096) (hk : k ≤ s.length) (hlt : tokAt s k < s.length) (hll : l.length ≤ 5000) (hn : n ≤ st.H.length) (hlow : n ≤ st.low) (hlow2 : st.low ≤ st.H.length) (l0 : lookupE st.vE 0 = .str s) (l5 : lookupE st.vE 5 = .int .i64 k) (hO : OutE n st.H (lookupE st.vE 4) l) :
    ∃ st', execL tab F92L0 st = some (.normal, st') ∧ n ≤ st'.H.length ∧ n ≤ st'.low ∧ st'.low ≤ st'.H.length ∧ lookupE st'.vE 0 = .str s ∧ lookupE st'.vE 5 = .int .i64 (tokEnd s k) ∧ OutE n st'.H (lookupE st'.vE 4) (l ++ [.agg (tokV s k)]) := by
  obtain ⟨c, r, hr, hW, h35⟩ := tok_there hlt
  have c1 := skip2_s (s := s) (k := k) (H := st.H) (by omega) hk
  have c2 := token2_s (s := s) (H := st.H) (at0 := tokAt s k) (by omega) hr hW h35
  unfold Ans at c1 c2
  rw [show tokAt s k + tokLen (s.drop (tokAt s k)) = tokEnd s k from rfl] at c2
  have hI : (tokAt s k : Int) < (s.length : Int) := by omega
  have hm0 : min st.low st.H.length = st.low := Nat.min_eq_left hlow2
  have tv : V.agg (tokV s k) = .agg [.int .i64 (tokKind (s.drop (tokAt s k))), .int .i64 k, .int .i64 (tokAt s k), .int .i64 (tokEnd s k)] := rfl
  have hcap : (l.length + 1) * 33 ≤ 1099511627776 := by omega
  rw [tv]
  rcases hO with ⟨rfl, hv⟩ | ⟨hlne, q, hnq, hv, hq⟩
  · refine ⟨_, by simp [F92L0, callBody, zipE, execL_seq, execL_region, execL_cond, execL_skip, execL_ret, execL_exit, execL_block, execOps, wantedA, S_mv, S_pick, S_bin, S_un, S_call0, S_call1, S_extract, S_nilEq, S_load, S_alloc, S_box, Opd.ev, lookupE, lookE_setE, St.put, binA, unA, boolOf, freezeVs, freezeV, freeze1, isP, isPs, resultsA, resultA, finish, old, olds, flat, movedH_same, Nat.min_self, loadA, readCells, cellsV, l0, l5, hv, S_len0, c1, c2, hI, S_build, S_lit, S_append, step, fillA, fillL, zeroElem, setCells, cellsOk, cellOk, elems, hm0]; rfl, ?_⟩
    refine ⟨by simp; omega, by simp; omega, by simp; omega, by simp [lookE_setE, l0], by simp [lookE_setE], .inr ⟨by simp, st.H.length, hn, by simp [lookE_setE], by simp⟩⟩
  · have hqE : ∀ h : q < st.H.length, st.H[q]'h = .row 4 l false := fun h => by rw [List.getElem?_eq_getElem h] at hq; exact Option.some.inj hq
    have hqH : q < st.H.length := by
      rcases Nat.lt_or_ge q st.H.length with h | h
      · exact h
      · rw [List.getElem?_eq_none h] at hq; cases hq
    refine ⟨_, by simp [F92L0, callBody, zipE, execL_seq, execL_region, execL_cond, execL_skip, execL_ret, execL_exit, execL_block, execOps, wantedA, S_mv, S_pick, S_bin, S_un, S_call0, S_call1, S_extract, S_nilEq, S_load, S_alloc, S_box, Opd.ev, lookupE, lookE_setE, St.put, binA, unA, boolOf, freezeVs, freezeV, freeze1, isP, isPs, resultsA, resultA, finish, old, olds, flat, movedH_same, Nat.min_self, loadA, readCells, cellsV, l0, l5, hv, hq, hqE, hqH, S_len0, c1, c2, hI, S_build, S_lit, S_append, step, fillA, fillL, zeroElem, setCells, cellsOk, cellOk, elems, hcap, hm0]; rfl, ?_⟩
    refine ⟨by simp; omega, by simp; omega, by simp; omega, by simp [lookE_setE, l0], by simp [lookE_setE], .inr ⟨by simp, q, hnq, by simp [lookE_setE], ?_⟩⟩
    simp [hqH]

set_option maxHeartbeats 1000000 in
theorem scan_loop (hl : s.length ≤ 4096) : ∀ (j k : Nat) (st : St) (l : List V), k + j = s.length → l.length ≤ k → n ≤ st.H.length → n ≤ st.low → st.low ≤ st.H.length → lookupE st.vE 0 = .str s → lookupE st.vE 5 = .int .i64 k → OutE n st.H (lookupE st.vE 4) l →
    ∃ ts e st', Scans s k ts e ∧ execL tab (.loop F92L0) st = some (.exit 0, st') ∧ n ≤ st'.H.length ∧ n ≤ st'.low ∧ st'.low ≤ st'.H.length ∧ (l ++ ts).length ≤ 4096 ∧ lookupE st'.vE 0 = .str s ∧ lookupE st'.vE 5 = .int .i64 e ∧ OutE n st'.H (lookupE st'.vE 4) (l ++ ts) := by
  intro j
  induction j using Nat.strongRecOn with
  | ind j ih =>
    intro k st l hj hlk hn hlow hlow2 l0 l5 hO
    by_cases hlt : tokAt s k < s.length
    · obtain ⟨st1, q1, q2, q3, q4, q5, q6, q7⟩ := scan_step (n := n) hl (by omega) hlt (by omega) hn hlow hlow2 l0 l5 hO
      have hte := tokEnd_le (s := s) (k := k) (by omega)
      obtain ⟨c, r, hr, -, -⟩ := tok_there hlt
      have hpos : tokAt s k < tokEnd s k := by
        have := @tokLen_pos c r
        unfold tokEnd; rw [hr]; omega
      have hge : k ≤ tokAt s k := by unfold tokAt; omega
      obtain ⟨ts, e, st', r1, r2, r3, r4, r5, r6, r7, r8, r9⟩ := ih (s.length - tokEnd s k) (by omega) (tokEnd s k) st1 (l ++ [.agg (tokV s k)]) (by omega) (by simp; omega) q2 q3 q4 q5 q6 q7
      refine ⟨.agg (tokV s k) :: ts, e, st', .step k ts e hlt r1, by rw [execL_loop, q1]; exact r2, r3, r4, r5, by simpa using r6, r7, r8, by simpa using r9⟩
    · have c1 := skip2_s (s := s) (k := k) (H := st.H) (by omega) (by omega)
      unfold Ans at c1
      have hI : ¬ (tokAt s k : Int) < (s.length : Int) := by omega
      have hm0 : min st.low st.H.length = st.low := Nat.min_eq_left hlow2
      rw [execL_loop]
      refine ⟨[], k, _, .done k (by omega), by simp [F92L0, callBody, zipE, execL_seq, execL_region, execL_cond, execL_skip, execL_ret, execL_exit, execL_block, execOps, wantedA, S_mv, S_pick, S_bin, S_un, S_call0, S_call1, S_extract, S_nilEq, S_load, S_alloc, S_box, Opd.ev, lookupE, lookE_setE, St.put, binA, unA, boolOf, freezeVs, freezeV, freeze1, isP, isPs, resultsA, resultA, finish, old, olds, flat, movedH_same, Nat.min_self, loadA, readCells, cellsV, l0, l5, S_len0, c1, hI]; rfl, ?_⟩
      refine ⟨hn, by simp; omega, by simp; omega, by simp; omega, by simp [lookE_setE, l0], by simp [lookE_setE, l5], ?_⟩
      have : lookupE (setE st.vE 18 (.bool false)) 4 = lookupE st.vE 4 := by simp [lookE_setE]
      simp only [List.append_nil]
      show OutE n st.H (lookupE (setE st.vE 18 (.bool false)) 4) l
      rw [this]; exact hO
end

theorem tokV_isP (s : List UInt8) (k : Nat) : isP (.agg (tokV s k)) = true := rfl
theorem Scans.isPs {s : List UInt8} {k e : Nat} {ts : List V} (h : Scans s k ts e) : isPs ts = true := by
  induction h with
  | done => rfl
  | step k ts e h hs ih => simp only [Go.Abs.isPs, ih, Bool.and_true]; rfl
theorem isPs_snoc {l : List V} {v : V} (h : isPs l = true) (hv : isP v = true) : isPs (l ++ [v]) = true := by
  induction l with
  | nil => simp [isPs, hv]
  | cons x l ih => simp only [isPs, Bool.and_eq_true] at h; simp only [List.cons_append, isPs, h.1, ih h.2, Bool.and_self]

def endV (s : List UInt8) (e : Nat) : V := .agg [.int .i64 0, .int .i64 e, .int .i64 s.length, .int .i64 s.length]

set_option maxHeartbeats 4000000 in
theorem scan_s {s : List UInt8} (hl : s.length ≤ 4096) (H : Heap) : ∃ ts e, Scans s 0 ts e ∧ Ans (.fn 92 [] []) [.str s] H (.tup [.list 4 (ts ++ [endV s e]), .int .i64 0]) := by
  have hbig : ¬ (4096 : Int) < (s.length : Int) := by omega
  obtain ⟨ts, e, st', r1, r2, r3, r4, r5, r6, r7, r8, r9⟩ := scan_loop (n := H.length) hl s.length 0 { tE := [], vE := [(0, .str s), (2, .nil0), (3, .int .i64 0), (11, .bool false), (4, .emp), (5, .int .i64 0)], H := H, low := H.length } [] (by omega) (Nat.le_refl _) (Nat.le_refl _) (Nat.le_refl _) (Nat.le_refl _) rfl rfl (.inl ⟨rfl, rfl⟩)
  rw [List.nil_append] at r6 r9
  refine ⟨ts, e, r1, ?_⟩
  have hip := isPs_snoc r1.isPs (v := endV s e) rfl
  have hev : V.agg [.int .i64 0, .int .i64 e, .int .i64 s.length, .int .i64 s.length] = endV s e := rfl
  have hei : isP (endV s e) = true := rfl
  have hec : cellsV (endV s e) = [.int .i64 0, .int .i64 e, .int .i64 s.length, .int .i64 s.length] := rfl
  have hm0 : min st'.low st'.H.length = st'.low := Nat.min_eq_left r5
  have hcap : (ts.length + 1) * 33 ≤ 1099511627776 := by omega
  unfold Ans
  rw [callL_fn, show tab 92 = some (.code F92) from rfl]
  rcases r9 with ⟨rfl, hv⟩ | ⟨hlne, q, hnq, hv, hq⟩
  · simp [F92, callBody, zipE, execL_seq, execL_region, execL_cond, execL_skip, execL_ret, execL_exit, execL_block, execOps, wantedA, S_mv, S_pick, S_bin, S_un, S_call0, S_call1, S_extract, S_nilEq, S_load, S_alloc, Opd.ev, lookupE, setE, St.put, binA, unA, boolOf, freezeVs, freezeV, freeze1, isP, isPs, resultsA, resultA, finish, old, olds, flat, movedH_same, Nat.min_self, loadA, readCells, cellsV_int, S_len0, hbig, S_lit, step, r2, r7, r8, hv, S_build, S_append, fillA, fillL, zeroElem, setCells, cellsOk, cellOk, elems, hev, hei, hec, freezeL, lookE_setE]
    intro h; omega
  · have hqE : ∀ h : q < st'.H.length, st'.H[q]'h = .row 4 ts false := fun h => by rw [List.getElem?_eq_getElem h] at hq; exact Option.some.inj hq
    have hqH : q < st'.H.length := by
      rcases Nat.lt_or_ge q st'.H.length with h | h
      · exact h
      · rw [List.getElem?_eq_none h] at hq; cases hq
    have htk : List.take (ts.length + 1) (ts ++ [endV s e]) = ts ++ [endV s e] := List.take_of_length_le (by simp)
    simp [F92, callBody, zipE, execL_seq, execL_region, execL_cond, execL_skip, execL_ret, execL_exit, execL_block, execOps, wantedA, S_mv, S_pick, S_bin, S_un, S_call0, S_call1, S_extract, S_nilEq, S_load, S_alloc, Opd.ev, lookupE, setE, St.put, binA, unA, boolOf, freezeVs, freezeV, freeze1, isP, isPs, resultsA, resultA, finish, old, olds, flat, movedH_same, Nat.min_self, loadA, readCells, cellsV_int, S_len0, hbig, S_lit, step, r2, r7, r8, hv, hq, hqE, hqH, S_build, S_append, fillA, fillL, zeroElem, setCells, cellsOk, cellOk, elems, hev, hei, hec, hcap, hip, htk, freezeL, lookE_setE]
    intro h; omega
end Go.Abs.T09
/- The reference's Kind and Name. -/
namespace Go.Abs.T09
open Go Go.Abs

theorem tokAt_ge (s : List UInt8) (k : Nat) : k ≤ tokAt s k := by unfold tokAt; omega
theorem tokAt_end (s : List UInt8) : tokAt s s.length = s.length := by unfold tokAt; simp [skipL]

/-- What the tokens say of the kind. -/
theorem kind_scans {w : List UInt8} (hl : w.length ≤ 4096) {ts : List V} {e : Nat} (h : Scans w 0 ts e) :
    (ts.length ≠ 1 ∧ kindOf w = 0) ∨ (ts = [.agg (tokV w 0)] ∧ kindOf w = if tokAt w 0 = 0 ∧ tokEnd w 0 = w.length then tokKind (w.drop (tokAt w 0)) else 0) := by
  have hk : kindOf w = if tokAt w 0 = 0 ∧ tokEnd w 0 = w.length ∧ w ≠ [] then tokKind (w.drop (tokAt w 0)) else 0 := by
    unfold kindOf
    by_cases h0 : w = []
    · simp [h0]
    · rw [if_neg (by simp [h0]; omega)]
      by_cases h1 : tokAt w 0 = 0
      · by_cases h2 : tokEnd w 0 = w.length
        · simp [h1, h2, h0]
        · simp [h1, h2]
      · simp [h1]
  cases h with
  | done _ h1 =>
    left
    refine ⟨by simp, ?_⟩
    rw [hk, if_neg]
    rintro ⟨a, b, c⟩
    have : 0 < w.length := List.length_pos_iff.2 c
    omega
  | step _ ts e h1 hs =>
    have hwne : w ≠ [] := by rintro rfl; simp at h1
    cases hs with
    | done _ h2 =>
      right
      refine ⟨rfl, ?_⟩
      rw [hk]
      by_cases a : tokAt w 0 = 0 ∧ tokEnd w 0 = w.length
      · rw [if_pos a, if_pos ⟨a.1, a.2, hwne⟩]
      · rw [if_neg a, if_neg (fun b => a ⟨b.1, b.2.1⟩)]
    | step _ ts e h2 hs =>
      left
      refine ⟨by simp, ?_⟩
      rw [hk, if_neg]
      rintro ⟨a, b, -⟩
      rw [b, tokAt_end] at h2
      omega

set_option maxHeartbeats 2000000 in
theorem kind2_s {w : List UInt8} (hl : w.length ≤ 4096) (H : Heap) : Ans (.fn 78 [] []) [.str w] H (.int .i64 (kindOf w)) := by
  obtain ⟨ts, e, hs, hc⟩ := scan_s hl H
  unfold Ans at hc ⊢
  have hsl : ∀ l : List V, slE 4 (.list 4 l) = true := fun _ => rfl
  have hel : ∀ l : List V, el (.list 4 l) = l := fun _ => rfl
  rw [callL_fn, show tab 78 = some (.code F78) from rfl]
  rcases kind_scans hl hs with ⟨h1, h2⟩ | ⟨rfl, h2⟩
  · have hne : (((ts.length + 1 : Nat) : Int) != 2) = true := by simp; omega
    rw [h2]
    simp [F78, callBody, zipE, execL_seq, execL_region, execL_cond, execL_skip, execL_ret, execL_exit, execL_block, execOps, wantedA, S_mv, S_pick, S_bin, S_un, S_call0, S_call1, S_extract, S_nilEq, S_load, S_alloc, S_box, Opd.ev, lookupE, setE, St.put, binA, unA, boolOf, freezeVs, freezeV, freeze1, isP, isPs, resultsA, resultA, finish, old, olds, flat, movedH_same, Nat.min_self, loadA, readCells, cellsV, hc, S_len 4, hsl, hel, -Int.natCast_add, hne]
  · by_cases a : tokAt w 0 = 0
    · have ea : ((tokAt w 0 : Int) != 0) = false := by simp [a]
      by_cases b : tokEnd w 0 = w.length
      · have eb : ((tokEnd w 0 : Int) != (w.length : Int)) = false := by simp [b]
        rw [h2, if_pos ⟨a, b⟩]
        unfold tokV at hc
        generalize tokKind (w.drop (tokAt w 0)) = K at *
        generalize (tokAt w 0 : Int) = A at *
        generalize (tokEnd w 0 : Int) = B at *
        simp [F78, callBody, zipE, execL_seq, execL_region, execL_cond, execL_skip, execL_ret, execL_exit, execL_block, execOps, wantedA, S_mv, S_pick, S_bin, S_un, S_call0, S_call1, S_extract, S_nilEq, S_load, S_alloc, S_box, Opd.ev, lookupE, setE, St.put, binA, unA, boolOf, freezeVs, freezeV, freeze1, isP, isPs, resultsA, resultA, finish, old, olds, flat, movedH_same, Nat.min_self, loadA, readCells, cellsV, hc, S_len 4, S_len0, S_index, S_fieldAddr, natOf, hsl, hel, ea, eb]
      · have eb : ((tokEnd w 0 : Int) != (w.length : Int)) = true := by simp; omega
        rw [h2, if_neg (fun h => b h.2)]
        unfold tokV at hc
        generalize tokKind (w.drop (tokAt w 0)) = K at *
        generalize (tokAt w 0 : Int) = A at *
        generalize (tokEnd w 0 : Int) = B at *
        simp [F78, callBody, zipE, execL_seq, execL_region, execL_cond, execL_skip, execL_ret, execL_exit, execL_block, execOps, wantedA, S_mv, S_pick, S_bin, S_un, S_call0, S_call1, S_extract, S_nilEq, S_load, S_alloc, S_box, Opd.ev, lookupE, setE, St.put, binA, unA, boolOf, freezeVs, freezeV, freeze1, isP, isPs, resultsA, resultA, finish, old, olds, flat, movedH_same, Nat.min_self, loadA, readCells, cellsV, hc, S_len 4, S_len0, S_index, S_fieldAddr, natOf, hsl, hel, ea, eb]
    · have ea : ((tokAt w 0 : Int) != 0) = true := by simp; omega
      rw [h2, if_neg (fun h => a h.1)]
      unfold tokV at hc
      generalize tokKind (w.drop (tokAt w 0)) = K at *
      generalize (tokAt w 0 : Int) = A at *
      generalize (tokEnd w 0 : Int) = B at *
      simp [F78, callBody, zipE, execL_seq, execL_region, execL_cond, execL_skip, execL_ret, execL_exit, execL_block, execOps, wantedA, S_mv, S_pick, S_bin, S_un, S_call0, S_call1, S_extract, S_nilEq, S_load, S_alloc, S_box, Opd.ev, lookupE, setE, St.put, binA, unA, boolOf, freezeVs, freezeV, freeze1, isP, isPs, resultsA, resultA, finish, old, olds, flat, movedH_same, Nat.min_self, loadA, readCells, cellsV, hc, S_len 4, S_len0, S_index, S_fieldAddr, natOf, hsl, hel, ea]

theorem name2_s {w : List UInt8} (hl : w.length ≤ 4096) (H : Heap) : Ans (.fn 55 [] []) [.str w] H (.bool (nameOk w)) := by
  have hk := kind2_s hl H
  unfold Ans at hk ⊢
  have e : ((kindOf w : Int) == 1) = decide (kindOf w = 1) := by rw [Bool.eq_iff_iff]; simp; omega
  have e2 : decide ((w.length : Int) ≤ 16) = decide (w.length ≤ 16) := by rw [decide_eq_decide]; omega
  rw [callL_fn, show tab 55 = some (.code F55) from rfl]
  unfold nameOk
  cases h1 : decide (kindOf w = 1) <;> cases h2 : decide (w.length ≤ 16) <;> simp [F55, callBody, zipE, execL_seq, execL_region, execL_cond, execL_skip, execL_ret, execL_exit, execL_block, execOps, wantedA, S_mv, S_pick, S_bin, S_un, S_call0, S_call1, S_extract, S_nilEq, S_load, S_alloc, S_box, Opd.ev, lookupE, setE, St.put, binA, unA, boolOf, freezeVs, freezeV, freeze1, isP, isPs, resultsA, resultA, finish, old, olds, flat, movedH_same, Nat.min_self, loadA, readCells, cellsV, S_len0, hk, e, e2, h1, h2]
end Go.Abs.T09
/- The shape of 'for i := 0; i < len(xs); i++'. Nothing here speaks of the real memory. -/
namespace Go.Abs
open Go

def forBody (b i xs t1 t2 t3 t4 t5 blk ex : Nat) (body : ACode) : ACode :=
  .seq (.seq (.region [⟨some (t1, false), .mv (.var i), none⟩, ⟨some (t2, false), .mv (.var xs), none⟩, ⟨some (t3, false), .len 1 (.tmp t2), none⟩, ⟨some (b, true), .bin .lss (.tmp t1) (.tmp t3), none⟩] none) (.cond (.var b) (.skip) (.exit ex)))
    (.seq (.block blk body) (.region [⟨some (t4, false), .mv (.var i), none⟩, ⟨some (t5, false), .bin .add (.tmp t4) (.const (.int .i64 1)), none⟩, ⟨some (i, true), .mv (.tmp t5), none⟩] none))

theorem for_loop {tab : Nat → Option Fun} {b i xs t1 t2 t3 t4 t5 blk ex es : Nat} {body : ACode} {I : Nat → St → Prop} {Q : X → St → Prop} {N : Nat} (hN : N < 4611686018427387904) (hbi : b ≠ i) (hex : ex ≠ blk) (ht : t2 ≠ t1 ∧ t3 ≠ t1 ∧ t3 ≠ t2 ∧ t5 ≠ t4)
    (hI : ∀ k st, I k st → lookupE st.vE i = .int .i64 k ∧ slE es (lookupE st.vE xs) = true ∧ (el (lookupE st.vE xs)).length = N ∧ st.low ≤ st.H.length)
    (round : ∀ k st, k < N → I k st → ∃ x st2, execL tab body { st with tE := [], vE := setE st.vE b (.bool true) } = some (x, st2) ∧
      if x = .normal ∨ x = .exit blk then lookupE st2.vE i = .int .i64 k ∧ st2.low ≤ st2.H.length ∧ I (k + 1) { st2 with tE := [], vE := setE st2.vE i (.int .i64 ((k + 1 : Nat) : Int)) } else Q x st2)
    (done : ∀ st, I N st → Q (.exit ex) { st with tE := [], vE := setE st.vE b (.bool false) }) :
    ∀ j k st, k + j = N → I k st → ∃ x st', execL tab (.loop (forBody b i xs t1 t2 t3 t4 t5 blk ex body)) st = some (x, st') ∧ Q x st' := by
  obtain ⟨n1, n2, n3, n4⟩ := ht
  have hlt : ∀ k st, I k st → execL tab (.region [⟨some (t1, false), .mv (.var i), none⟩, ⟨some (t2, false), .mv (.var xs), none⟩, ⟨some (t3, false), .len 1 (.tmp t2), none⟩, ⟨some (b, true), .bin .lss (.tmp t1) (.tmp t3), none⟩] none) st = some (.normal, { st with tE := [], vE := setE st.vE b (.bool (decide (k < N))) }) := fun k st h => by
    obtain ⟨h1, h2, h3, h4⟩ := hI k st h
    rw [execL_region]
    simp [execOps, wantedA, S_bin, S_mv, S_len es, h2, h3, Opd.ev, h1, lookupE, n1, n2, n3, binA, St.put, Nat.min_eq_left h4]
  intro j
  induction j with
  | zero =>
    intro k st hk h
    have : k = N := by omega
    subst this
    refine ⟨.exit ex, _, ?_, done st h⟩
    rw [execL_loop]
    simp only [forBody]
    rw [execL_seq, execL_seq, hlt k st h]
    simp only []
    rw [execL_cond]
    simp [Opd.ev, lookE_setE, execL_exit]
  | succ j ih =>
    intro k st hk h
    obtain ⟨x, st2, h1, h2⟩ := round k st (by omega) h
    have hpre : ∀ r, execL tab (.seq (.block blk body) (.region [⟨some (t4, false), .mv (.var i), none⟩, ⟨some (t5, false), .bin .add (.tmp t4) (.const (.int .i64 1)), none⟩, ⟨some (i, true), .mv (.tmp t5), none⟩] none)) { st with tE := [], vE := setE st.vE b (.bool true) } = r →
        execL tab (forBody b i xs t1 t2 t3 t4 t5 blk ex body) st = r := fun r hr => by
      simp only [forBody]
      rw [execL_seq, execL_seq, hlt k st h]
      simp only []
      rw [execL_cond]
      have hd : decide (k < N) = true := by simp; omega
      simp [Opd.ev, lookE_setE, execL_skip, hd, hr]
    by_cases hx : x = .normal ∨ x = .exit blk
    · rw [if_pos hx] at h2
      obtain ⟨h2, h4, h3⟩ := h2
      have hblk : execL tab (.block blk body) { st with tE := [], vE := setE st.vE b (.bool true) } = some (.normal, st2) := by
        rw [execL_block, h1]
        rcases hx with rfl | rfl
        · rfl
        · simp
      have hinc : execL tab (.region [⟨some (t4, false), .mv (.var i), none⟩, ⟨some (t5, false), .bin .add (.tmp t4) (.const (.int .i64 1)), none⟩, ⟨some (i, true), .mv (.tmp t5), none⟩] none) st2 = some (.normal, { st2 with tE := [], vE := setE st2.vE i (.int .i64 ((k + 1 : Nat) : Int)) }) := by
        have hw : IntKind.i64.wrap ((k : Int) + 1) = ((k + 1 : Nat) : Int) := by rw [wrap_small] <;> omega
        rw [execL_region]
        simp [execOps, wantedA, S_bin, S_mv, Opd.ev, h2, binA, hw, St.put, lookupE, Nat.min_eq_left h4]
      have hround := hpre _ (by rw [execL_seq, hblk])
      simp only [hinc] at hround
      obtain ⟨x', st', h5, h6⟩ := ih (k + 1) _ (by omega) h3
      exact ⟨x', st', by rw [execL_loop, hround]; exact h5, h6⟩
    · rw [if_neg hx] at h2
      have hblk : execL tab (.block blk body) { st with tE := [], vE := setE st.vE b (.bool true) } = some (x, st2) := by
        rw [execL_block, h1]
        cases x with
        | normal => exact absurd (.inl rfl) hx
        | exit id =>
          have : id ≠ blk := fun e => hx (.inr (by rw [e]))
          simp [this]
        | ret => rfl
      have hround := hpre (some (x, st2)) (by
        rw [execL_seq, hblk]
        cases x with
        | normal => exact absurd (.inl rfl) hx
        | exit id => rfl
        | ret => rfl)
      refine ⟨x, st2, ?_, h2⟩
      rw [execL_loop, hround]
      cases x with
      | normal => exact absurd (.inl rfl) hx
      | exit id => rfl
      | ret => rfl
end Go.Abs
/- cells.Cell. -/
namespace Go.Abs.T09
open Go Go.Abs

/-! ### what a valid layout is -/
structure Valid (sizes : List Int) (ts : List Tb) : Prop where
  ok : sizes.all okSize = true
  slen : sizes.length ≤ 4
  len : ts.length ≤ 12
  fits : ∀ k t, ts[k]? = some t → tFits sizes (ts.take k) t = true
  strict : sumB true sizes ts ≤ 128
  merged : sumB false sizes ts ≤ 64

theorem valid_iff {sizes : List Int} {ts : List Tb} : validB sizes ts = true ↔ Valid sizes ts := by
  simp only [validB, List.all_cons, List.all_nil, id, Bool.and_eq_true, decide_eq_true_eq, fitsAll_iff]
  constructor
  · rintro ⟨⟨⟨a, b, c, -⟩, d⟩, e, f⟩
    exact ⟨c, a, b, d, e, f⟩
  · rintro ⟨a, b, c, d, e, f⟩
    exact ⟨⟨⟨b, c, a, trivial⟩, d⟩, e, f⟩

theorem Valid.good {sizes : List Int} {ts : List Tb} (h : Valid sizes ts) {k : Nat} {t : Tb} (e : ts[k]? = some t) : goodCols sizes t.cl = true := tFits_good (h.fits k t e)
theorem Valid.widb {sizes : List Int} {ts : List Tb} (h : Valid sizes ts) {k : Nat} {t : Tb} (e : ts[k]? = some t) : 1 ≤ wid sizes t ∧ wid sizes t ≤ 216 := wid_bound h.ok (h.good e)
theorem Valid.first {sizes : List Int} {ts : List Tb} (h : Valid sizes ts) {k : Nat} {t : Tb} (e : ts[k]? = some t) : t.first = sumB (strictB t) sizes (ts.take k) := by
  have := h.fits k t e
  simp only [tFits, firstOk, Bool.and_eq_true, beq_iff_eq] at this
  exact this.2
theorem Valid.sum_mono {sizes : List Int} {ts : List Tb} (h : Valid sizes ts) (b : Bool) : ∀ (j k : Nat), sumB b sizes (ts.take k) ≤ sumB b sizes (ts.take (k + j))
  | 0, k => Int.le_refl _
  | j + 1, k => by
    have ih := h.sum_mono b j k
    cases e : ts[k + j]? with
    | none =>
      have hle := List.getElem?_eq_none_iff.1 e
      have e1 : ts.take (k + (j + 1)) = ts := List.take_of_length_le (by omega)
      have e2 : ts.take (k + j) = ts := List.take_of_length_le hle
      rw [e2] at ih
      rw [e1]
      exact ih
    | some t =>
      have := h.widb e
      rw [show k + (j + 1) = (k + j) + 1 by omega, sumB_succ e]
      split <;> omega
theorem Valid.sum_le {sizes : List Int} {ts : List Tb} (h : Valid sizes ts) (b : Bool) (k : Nat) : 0 ≤ sumB b sizes (ts.take k) ∧ sumB b sizes (ts.take k) ≤ sumB b sizes ts := by
  constructor
  · have := h.sum_mono b k 0
    simpa [sumB] using this
  · have := h.sum_mono b ts.length k
    rwa [List.take_of_length_le (i := k + ts.length) (by omega)] at this
theorem Valid.sum_all {sizes : List Int} {ts : List Tb} (h : Valid sizes ts) (b : Bool) : 0 ≤ sumB b sizes ts ∧ sumB b sizes ts ≤ 128 := by
  have h1 := (h.sum_le b ts.length).1
  rw [List.take_length] at h1
  have := h.strict
  have := h.merged
  cases b <;> omega
theorem Valid.end_le {sizes : List Int} {ts : List Tb} (h : Valid sizes ts) {k : Nat} {t : Tb} (e : ts[k]? = some t) : 0 ≤ t.first ∧ t.first + wid sizes t ≤ sumB (strictB t) sizes ts := by
  rw [h.first e]
  have h1 := (h.sum_le (strictB t) k).1
  have h2 := (h.sum_le (strictB t) (k + 1)).2
  rw [sumB_succ e] at h2
  simp at h2
  exact ⟨h1, h2⟩

theorem valP_lt {ds t : List Int} (hd : ∀ d ∈ ds, 1 ≤ d) : ∀ i, i ≤ ds.length → (∀ j x d, j < i → t[j]? = some x → ds[j]? = some d → 0 ≤ x ∧ x < d) → i ≤ t.length → 0 ≤ valP ds t i ∧ valP ds t i < prodP ds i
  | 0, _, _, _ => by simp [valP, prodP]
  | i + 1, hi, h, ht => by
    obtain ⟨d, hdi⟩ : ∃ d, ds[i]? = some d := ⟨_, List.getElem?_eq_getElem (by omega)⟩
    obtain ⟨x, hx⟩ : ∃ x, t[i]? = some x := ⟨_, List.getElem?_eq_getElem (by omega)⟩
    have ih := valP_lt hd i (by omega) (fun j x d hj => h j x d (by omega)) (by omega)
    have hxd := h i x d (by omega) hx hdi
    have hd1 := hd d (List.mem_of_getElem? hdi)
    simp only [valP, prodP, hdi, hx, Option.getD_some]
    have a : 0 ≤ valP ds t i * d := Int.mul_nonneg ih.1 (by omega)
    have b : (valP ds t i + 1) * d ≤ prodP ds i * d := Int.mul_le_mul_of_nonneg_right (by omega) (by omega)
    rw [Int.add_mul] at b
    omega

open Classical in
/-- What cells.Cell returns. -/
noncomputable def cellR (sizes : List Int) (ts : List Tb) (table : Int) (tu : List Int) : Int × Int :=
  if validB sizes ts = false then (0, 1) else if table < 0 ∨ (ts.length : Int) ≤ table then (0, 7) else
  match ts[table.toNat]? with
  | none => (0, 7)
  | some t => if InR (dimsOf sizes t.cl) tu then (t.first + valP (dimsOf sizes t.cl) tu tu.length, 0) else (0, 2)

set_option maxHeartbeats 1000000 in
theorem cell_loop {sizes tu : List Int} {sv uv : V} {t : Tb} {H : Heap} (hs : VI sv sizes) (ht : TbOk t) (hu : VI uv tu) (hok : sizes.all okSize = true) (hgc : goodCols sizes t.cl = true) (hlen : tu.length = t.cl.length)
    {st : St} (h1 : st.H = H ++ [.cells t.cells]) (h2 : st.low = H.length) (l0 : lookupE st.vE 0 = sv) (l10 : lookupE st.vE 10 = .ptr H.length 0) (l11 : lookupE st.vE 11 = .int .i64 0) (l36 : lookupE st.vE 36 = uv) (l37 : lookupE st.vE 37 = .int .i64 tu.length) (l38 : lookupE st.vE 38 = .int .i64 0) :
    ∃ x st', execL tab (.loop (rangeBody 39 37 38 69 1 0 F10L0)) st = some (x, st') ∧ st'.H = H ++ [.cells t.cells] ∧ st'.low = H.length ∧
      ((x = .exit 0 ∧ InR (dimsOf sizes t.cl) tu ∧ lookupE st'.vE 10 = .ptr H.length 0 ∧ lookupE st'.vE 11 = .int .i64 (valP (dimsOf sizes t.cl) tu tu.length)) ∨ (x = .ret ∧ ¬ InR (dimsOf sizes t.cl) tu ∧ lookupE st'.vE 8 = .int .i64 0 ∧ lookupE st'.vE 9 = .int .i64 2)) := by
  have hdl : (dimsOf sizes t.cl).length = t.cl.length := by simp [dimsOf]
  have hin := (goodCols_in hgc).2
  have hd := dims_in hok hgc
  have hcb := cols_bound hok hgc
  have hbnd : ∀ i, i ≤ t.cl.length → prodP (dimsOf sizes t.cl) i ≤ 216 := fun i hi => by rw [prodP_take _ _ (by omega)]; exact (hcb i hi).2
  have hco := ht.cols
  have key := range_loop (tab := tab) (b := 39) (n := 37) (i := 38) (t := 69) (blk := 1) (ex := 0) (body := F10L0)
    (I := fun k st => st.H = H ++ [.cells t.cells] ∧ st.low = H.length ∧ lookupE st.vE 0 = sv ∧ lookupE st.vE 10 = .ptr H.length 0 ∧ lookupE st.vE 11 = .int .i64 (valP (dimsOf sizes t.cl) tu k) ∧ lookupE st.vE 36 = uv ∧ lookupE st.vE 38 = .int .i64 k ∧ lookupE st.vE 37 = .int .i64 tu.length ∧
      ∀ j x d, j < k → tu[j]? = some x → (dimsOf sizes t.cl)[j]? = some d → 0 ≤ x ∧ x < d)
    (Q := fun x st' => st'.H = H ++ [.cells t.cells] ∧ st'.low = H.length ∧ ((x = .exit 0 ∧ InR (dimsOf sizes t.cl) tu ∧ lookupE st'.vE 10 = .ptr H.length 0 ∧ lookupE st'.vE 11 = .int .i64 (valP (dimsOf sizes t.cl) tu tu.length)) ∨ (x = .ret ∧ ¬ InR (dimsOf sizes t.cl) tu ∧ lookupE st'.vE 8 = .int .i64 0 ∧ lookupE st'.vE 9 = .int .i64 2)))
    (N := tu.length) hu.lt (by decide) (by decide)
    (fun k st h => ⟨h.2.2.2.2.2.2.1, h.2.2.2.2.2.2.2.1, by rw [h.1, h.2.1]; simp⟩)
    (by
      rintro k st hk ⟨q1, q2, q3, q4, q5, q6, q7, q8, q9⟩
      obtain ⟨x, hx⟩ : ∃ x, tu[k]? = some x := ⟨_, List.getElem?_eq_getElem hk⟩
      obtain ⟨c, hcc⟩ : ∃ c, t.cl[k]? = some c := ⟨_, List.getElem?_eq_getElem (by omega)⟩
      obtain ⟨c0, c1⟩ := hin c (List.mem_of_getElem? hcc)
      obtain ⟨d, hsd⟩ : ∃ d, sizes[c.toNat]? = some d := ⟨_, List.getElem?_eq_getElem (by omega)⟩
      have hdim : (dimsOf sizes t.cl)[k]? = some d := by simp [dimsOf, hcc, hsd]
      have hd1 := hd d (List.mem_of_getElem? hdim)
      have hgx := hu.get hx
      have hgc' := hco.get hcc
      have hgd := hs.get hsd
      have hn0 : min H.length (H.length + 1) = H.length := Nat.min_eq_left (by omega)
      have hv := valP_lt (fun d h => (hd d h).1) k (by omega) q9 (by omega)
      have hp := hbnd k (by omega)
      by_cases hx0 : x < 0
      · refine ⟨.ret, _, by simp [F10L0, callBody, zipE, execL_seq, execL_region, execL_cond, execL_skip, execL_ret, execL_exit, execL_block, execOps, wantedA, S_mv, S_pick, S_bin, S_un, S_call0, S_call1, S_extract, S_nilEq, S_load, S_alloc, Opd.ev, lookupE, lookE_setE, St.put, binA, unA, boolOf, freezeVs, freezeV, freeze1, isP, isPs, resultsA, resultA, finish, old, olds, flat, movedH_same, Nat.min_self, loadA, readCells, cellsV_int, q1, q2, q3, q4, q5, q6, q7, S_index, hu.sl, hs.sl, hco.sl, hgx, hx0, hn0]; rfl, ?_⟩
        simp only [reduceCtorEq, or_self, if_false]
        exact ⟨by simp, by simp, .inr ⟨trivial, fun hR => by have := (hR.2 k x d hx hdim).1; omega, by simp [lookE_setE], by simp [lookE_setE]⟩⟩
      · by_cases hxd : x < d
        · have hxd' : ¬ d ≤ x := by omega
          have hvs : valP (dimsOf sizes t.cl) tu (k + 1) = valP (dimsOf sizes t.cl) tu k * d + x := by simp [valP, hdim, hx]
          have hv2 := valP_lt (fun d h => (hd d h).1) (k + 1) (by omega) (t := tu) (fun j y e hj hy he => by
            rcases Nat.lt_or_ge j k with h | h
            · exact q9 j y e h hy he
            · have : j = k := by omega
              subst this
              rw [hx] at hy; rw [hdim] at he; cases hy; cases he; omega) (by omega)
          have hp2 := hbnd (k + 1) (by omega)
          rw [hvs] at hv2
          have hm0 : 0 ≤ valP (dimsOf sizes t.cl) tu k * d := Int.mul_nonneg hv.1 (by omega)
          have hw1 : IntKind.i64.wrap (valP (dimsOf sizes t.cl) tu k * d) = valP (dimsOf sizes t.cl) tu k * d := by rw [wrap_small] <;> omega
          have hw2 : IntKind.i64.wrap (valP (dimsOf sizes t.cl) tu k * d + x) = valP (dimsOf sizes t.cl) tu k * d + x := by rw [wrap_small] <;> omega
          refine ⟨.normal, _, by simp [F10L0, callBody, zipE, execL_seq, execL_region, execL_cond, execL_skip, execL_ret, execL_exit, execL_block, execOps, wantedA, S_mv, S_pick, S_bin, S_un, S_call0, S_call1, S_extract, S_nilEq, S_load, S_alloc, Opd.ev, lookupE, lookE_setE, St.put, binA, unA, boolOf, freezeVs, freezeV, freeze1, isP, isPs, resultsA, resultA, finish, old, olds, flat, movedH_same, Nat.min_self, loadA, readCells, cellsV_int, q1, q2, q3, q4, q5, q6, q7, S_index, S_fieldAddr, get_off, get_off0, Tb.c2, Tb.e2, Tb.len, hu.sl, hs.sl, hco.sl, hgx, hgc', natOf_nonneg _ c0, hgd, hx0, hxd, hxd', hn0, hw1, hw2]; rfl, ?_⟩
          simp only [true_or, if_true, lookE_setE, q1, q2]
          refine ⟨by simp [q7], by simp, by simp, by simp, by simp [q3], by simp [q4], by simp [hvs], by simp [q6], by simp, by simp [q8], fun j y e hj hy he => ?_⟩
          rcases Nat.lt_or_ge j k with h | h
          · exact q9 j y e h hy he
          · have : j = k := by omega
            subst this
            rw [hx] at hy; rw [hdim] at he; cases hy; cases he; omega
        · have hxd' : d ≤ x := by omega
          refine ⟨.ret, _, by simp [F10L0, callBody, zipE, execL_seq, execL_region, execL_cond, execL_skip, execL_ret, execL_exit, execL_block, execOps, wantedA, S_mv, S_pick, S_bin, S_un, S_call0, S_call1, S_extract, S_nilEq, S_load, S_alloc, Opd.ev, lookupE, lookE_setE, St.put, binA, unA, boolOf, freezeVs, freezeV, freeze1, isP, isPs, resultsA, resultA, finish, old, olds, flat, movedH_same, Nat.min_self, loadA, readCells, cellsV_int, q1, q2, q3, q4, q5, q6, q7, S_index, S_fieldAddr, get_off, get_off0, Tb.c2, Tb.e2, Tb.len, hu.sl, hs.sl, hco.sl, hgx, hgc', natOf_nonneg _ c0, hgd, hx0, hxd, hxd', hn0]; rfl, ?_⟩
          simp only [reduceCtorEq, or_self, if_false]
          exact ⟨by simp, by simp, .inr ⟨trivial, fun hR => hxd (hR.2 k x d hx hdim).2, by simp [lookE_setE], by simp [lookE_setE]⟩⟩)
    (by
      rintro st ⟨q1, q2, q3, q4, q5, q6, q7, q8, q9⟩
      refine ⟨q1, q2, .inl ⟨rfl, ⟨by omega, fun j x d hx hd => ?_⟩, by simp [lookE_setE, q4], by simp [lookE_setE, q5]⟩⟩
      have hj : j < tu.length := by
        rcases Nat.lt_or_ge j tu.length with h | h
        · exact h
        · rw [List.getElem?_eq_none h] at hx; cases hx
      exact q9 j x d hj hx hd)
  exact key tu.length 0 st (by omega) ⟨h1, h2, l0, l10, by simpa [valP] using l11, l36, l38, l37, fun j x d hj => absurd hj (by omega)⟩

set_option maxHeartbeats 2000000 in
theorem cell_s {sizes tu : List Int} {sv tv uv : V} {ts : List Tb} {table : Int} (hs : VI sv sizes) (ht : VT tv ts) (hu : VI uv tu) (H : Heap) :
    Ans (.fn 10 [] []) [sv, tv, .int .i64 table, uv] H (.tup [.int .i64 (cellR sizes ts table tu).1, .int .i64 (cellR sizes ts table tu).2]) := by
  have hv := valid_s hs ht H
  unfold Ans at *
  rw [callL_fn, show tab 10 = some (.code F10) from rfl]
  unfold cellR
  cases hV : validB sizes ts with
  | false =>
    rw [hV] at hv
    simp [F10, callBody, zipE, execL_seq, execL_region, execL_cond, execL_skip, execL_ret, execL_exit, execL_block, execOps, wantedA, S_mv, S_pick, S_bin, S_un, S_call0, S_call1, S_extract, S_nilEq, S_load, S_alloc, Opd.ev, lookupE, setE, St.put, binA, unA, boolOf, freezeVs, freezeV, freeze1, isP, isPs, resultsA, resultA, finish, old, olds, flat, movedH_same, Nat.min_self, loadA, readCells, cellsV_int, slE_isP hs.sl, slE_isP ht.sl, hv]
  | true =>
    rw [hV] at hv
    have hVd := valid_iff.1 hV
    by_cases h0 : table < 0
    · simp [F10, callBody, zipE, execL_seq, execL_region, execL_cond, execL_skip, execL_ret, execL_exit, execL_block, execOps, wantedA, S_mv, S_pick, S_bin, S_un, S_call0, S_call1, S_extract, S_nilEq, S_load, S_alloc, Opd.ev, lookupE, setE, St.put, binA, unA, boolOf, freezeVs, freezeV, freeze1, isP, isPs, resultsA, resultA, finish, old, olds, flat, movedH_same, Nat.min_self, loadA, readCells, cellsV_int, slE_isP hs.sl, slE_isP ht.sl, hv, h0]
    · by_cases h1 : (ts.length : Int) ≤ table
      · simp [F10, callBody, zipE, execL_seq, execL_region, execL_cond, execL_skip, execL_ret, execL_exit, execL_block, execOps, wantedA, S_mv, S_pick, S_bin, S_un, S_call0, S_call1, S_extract, S_nilEq, S_load, S_alloc, Opd.ev, lookupE, setE, St.put, binA, unA, boolOf, freezeVs, freezeV, freeze1, isP, isPs, resultsA, resultA, finish, old, olds, flat, movedH_same, Nat.min_self, loadA, readCells, cellsV_int, slE_isP hs.sl, slE_isP ht.sl, hv, h0, h1, S_len 6, ht.sl, ht.len]
      · obtain ⟨t, het⟩ : ∃ t, ts[table.toNat]? = some t := ⟨_, List.getElem?_eq_getElem (by omega)⟩
        have hto := ht.ok t (List.mem_of_getElem? het)
        have hg := ht.get het
        have hset : setCells [V.str [], .int .i64 0, .nil0, .int .i64 0, .int .i64 0, .int .i64 0] 0 t.cells = t.cells := rfl
        have hnn : 0 ≤ table := by omega
        rw [het]
        by_cases hl : tu.length = t.cl.length
        · have hlb : ((tu.length : Int) != (t.cl.length : Int)) = false := by simp [hl]
          obtain ⟨x, st', r1, r2, r3, r4⟩ := cell_loop (H := H) hs hto hu hVd.ok (hVd.good het) hl
            (st := { tE := [], vE := [(0, sv), (1, tv), (2, .int .i64 table), (3, uv), (8, .int .i64 0), (9, .int .i64 0), (17, .bool false), (25, .bool false), (10, .ptr H.length 0), (11, .int .i64 0), (35, .bool false), (36, uv), (37, .int .i64 tu.length), (38, .int .i64 0)], H := H ++ [.cells t.cells], low := H.length }) rfl rfl rfl rfl rfl rfl rfl rfl
          rcases r4 with ⟨rfl, r4, r5, r6⟩ | ⟨rfl, r4, r5, r6⟩
          · have hb := valP_lt (fun d h => (dims_in hVd.ok (hVd.good het) d h).1) (dimsOf sizes t.cl).length (Nat.le_refl _) (fun j x d _ hx hd => r4.2 j x d hx hd) (by rw [r4.1]; exact Nat.le_refl _)
            rw [prodP_take _ _ (Nat.le_refl _), List.take_length, ← r4.1] at hb
            have hwd := hVd.widb het
            have hfi := hVd.end_le het
            have hsa := hVd.sum_all (strictB t)
            have hw : IntKind.i64.wrap (t.first + valP (dimsOf sizes t.cl) tu tu.length) = t.first + valP (dimsOf sizes t.cl) tu tu.length := by
              unfold wid at hwd hfi; rw [wrap_small] <;> omega
            simp [F10, callBody, zipE, execL_seq, execL_region, execL_cond, execL_skip, execL_ret, execL_exit, execL_block, execOps, wantedA, S_mv, S_pick, S_bin, S_un, S_call0, S_call1, S_extract, S_nilEq, S_load, S_alloc, Opd.ev, lookupE, setE, St.put, binA, unA, boolOf, freezeVs, freezeV, freeze1, isP, isPs, resultsA, resultA, finish, old, olds, flat, movedH_same, Nat.min_self, loadA, readCells, cellsV_int, slE_isP hs.sl, slE_isP ht.sl, hv, h0, h1, S_len 6, S_len 1, hu.sl, hu.len, hto.cols.sl, hto.cols.len, ht.sl, ht.len, S_index, natOf_nonneg _ hnn, hg, Tb.v, cellsV_agg, Tb.len, Tb.t6, Tb.c2, Tb.e2, Tb.c5, Tb.e5, S_fieldAddr, S_store, storeA, hto.cells, hset, get_off, get_off0, set_off, set_off0, hlb, r1, r2, r3, r4, r5, r6, hw, lookE_setE]
          · simp [F10, callBody, zipE, execL_seq, execL_region, execL_cond, execL_skip, execL_ret, execL_exit, execL_block, execOps, wantedA, S_mv, S_pick, S_bin, S_un, S_call0, S_call1, S_extract, S_nilEq, S_load, S_alloc, Opd.ev, lookupE, setE, St.put, binA, unA, boolOf, freezeVs, freezeV, freeze1, isP, isPs, resultsA, resultA, finish, old, olds, flat, movedH_same, Nat.min_self, loadA, readCells, cellsV_int, slE_isP hs.sl, slE_isP ht.sl, hv, h0, h1, S_len 6, S_len 1, hu.sl, hu.len, hto.cols.sl, hto.cols.len, ht.sl, ht.len, S_index, natOf_nonneg _ hnn, hg, Tb.v, cellsV_agg, Tb.len, Tb.t6, Tb.c2, Tb.e2, S_fieldAddr, S_store, storeA, hto.cells, hset, get_off, get_off0, set_off, set_off0, hlb, r1, r2, r3, r4, r5, r6, lookE_setE]
        · have hlb : ((tu.length : Int) != (t.cl.length : Int)) = true := by simp; omega
          have hnR : ¬ InR (dimsOf sizes t.cl) tu := fun hR => hl (by rw [hR.1]; simp [dimsOf])
          simp [F10, callBody, zipE, execL_seq, execL_region, execL_cond, execL_skip, execL_ret, execL_exit, execL_block, execOps, wantedA, S_mv, S_pick, S_bin, S_un, S_call0, S_call1, S_extract, S_nilEq, S_load, S_alloc, Opd.ev, lookupE, setE, St.put, binA, unA, boolOf, freezeVs, freezeV, freeze1, isP, isPs, resultsA, resultA, finish, old, olds, flat, movedH_same, Nat.min_self, loadA, readCells, cellsV_int, slE_isP hs.sl, slE_isP ht.sl, hv, h0, h1, S_len 6, S_len 1, hu.sl, hu.len, hto.cols.sl, hto.cols.len, ht.sl, ht.len, S_index, natOf_nonneg _ hnn, hg, Tb.v, cellsV_agg, Tb.len, Tb.t6, Tb.c2, Tb.e2, S_fieldAddr, S_store, storeA, hto.cells, hset, get_off, get_off0, set_off, set_off0, hlb, hnR]
end Go.Abs.T09
/- The reference's cells: strict, sound, number; the reference's Ints. -/
namespace Go.Abs.T09
open Go Go.Abs

theorem strict2_s (k : Int) (H : Heap) : Ans (.fn 35 [] []) [.int .i64 k] H (.bool (k == 0 || k == 1)) := by
  unfold Ans
  rw [callL_fn, show tab 35 = some (.code F35) from rfl]
  cases h0 : (k == 0) <;> cases h1 : (k == 1) <;> simp [F35, callBody, zipE, execL_seq, execL_region, execL_cond, execL_skip, execL_ret, execL_exit, execL_block, execOps, wantedA, S_mv, S_pick, S_bin, S_un, S_call0, S_call1, S_extract, S_nilEq, S_load, S_alloc, S_box, Opd.ev, lookupE, setE, St.put, binA, unA, boolOf, freezeVs, freezeV, freeze1, isP, isPs, resultsA, resultA, finish, old, olds, flat, movedH_same, Nat.min_self, loadA, readCells, cellsV, h0, h1]

def F54LB : ACode := .seq (.region [⟨some (10, false), .mv (.var 0), none⟩, ⟨some (11, false), .mv (.var 3), none⟩, ⟨some (12, false), .indexAddr 1 (.tmp 10) (.tmp 11), none⟩, ⟨some (13, false), .load none (.tmp 12), none⟩, ⟨some (14, false), .bin .lss (.tmp 13) (.const (.int .i64 1)), none⟩, ⟨some (15, false), .mv (.tmp 14), none⟩, ⟨some (16, false), .mv (.var 0), some ((.tmp 15), false)⟩, ⟨some (17, false), .mv (.var 3), some ((.tmp 15), false)⟩, ⟨some (18, false), .indexAddr 1 (.tmp 16) (.tmp 17), some ((.tmp 15), false)⟩, ⟨some (19, false), .load none (.tmp 18), some ((.tmp 15), false)⟩, ⟨some (20, false), .bin .gtr (.tmp 19) (.const (.int .i64 6)), some ((.tmp 15), false)⟩, ⟨some (21, true), .pick (.tmp 15) (.const (.bool true)) (.tmp 20), none⟩] none) (.cond (.var 21) (.seq (.region [⟨some (2, true), .mv (.const (.bool false)), none⟩] none) (.ret)) (.skip))
theorem F54L0_for : F54L0 = forBody 7 3 0 4 5 6 8 9 1 0 F54LB := rfl
def F36LB : ACode := .seq (.seq (.region [⟨some (21, false), .mv (.var 1), none⟩, ⟨some (22, false), .mv (.var 6), none⟩, ⟨some (23, false), .indexAddr 1 (.tmp 21) (.tmp 22), none⟩, ⟨some (24, false), .load none (.tmp 23), none⟩, ⟨some (25, false), .bin .lss (.tmp 24) (.const (.int .i64 0)), none⟩, ⟨some (26, false), .mv (.tmp 25), none⟩, ⟨some (27, false), .mv (.var 1), some ((.tmp 26), false)⟩, ⟨some (28, false), .mv (.var 6), some ((.tmp 26), false)⟩, ⟨some (29, false), .indexAddr 1 (.tmp 27) (.tmp 28), some ((.tmp 26), false)⟩, ⟨some (30, false), .load none (.tmp 29), some ((.tmp 26), false)⟩, ⟨some (31, false), .mv (.var 0), some ((.tmp 26), false)⟩, ⟨some (32, false), .len 1 (.tmp 31), some ((.tmp 26), false)⟩, ⟨some (33, false), .bin .geq (.tmp 30) (.tmp 32), some ((.tmp 26), false)⟩, ⟨some (34, true), .pick (.tmp 26) (.const (.bool true)) (.tmp 33), none⟩] none) (.cond (.var 34) (.seq (.region [⟨some (4, true), .mv (.const (.int .i64 0)), none⟩] none) (.ret)) (.skip))) (.region [⟨some (35, false), .mv (.var 5), none⟩, ⟨some (36, false), .mv (.var 0), none⟩, ⟨some (37, false), .mv (.var 1), none⟩, ⟨some (38, false), .mv (.var 6), none⟩, ⟨some (39, false), .indexAddr 1 (.tmp 37) (.tmp 38), none⟩, ⟨some (40, false), .load none (.tmp 39), none⟩, ⟨some (41, false), .indexAddr 1 (.tmp 36) (.tmp 40), none⟩, ⟨some (42, false), .load none (.tmp 41), none⟩, ⟨some (43, false), .bin .mul (.tmp 35) (.tmp 42), none⟩, ⟨some (5, true), .mv (.tmp 43), none⟩] none)
theorem F36L0_for : F36L0 = forBody 18 6 1 15 16 17 19 20 1 0 F36LB := rfl
def F14LB : ACode := .seq (.region [⟨some (17, false), .mv (.var 0), none⟩, ⟨some (18, false), .mv (.var 5), none⟩, ⟨some (19, false), .indexAddr 1 (.tmp 17) (.tmp 18), none⟩, ⟨some (20, false), .load none (.tmp 19), none⟩, ⟨some (21, false), .mv (.var 1), none⟩, ⟨some (22, false), .mv (.var 5), none⟩, ⟨some (23, false), .indexAddr 1 (.tmp 21) (.tmp 22), none⟩, ⟨some (24, false), .load none (.tmp 23), none⟩, ⟨some (25, true), .bin .neq (.tmp 20) (.tmp 24), none⟩] (some [0, 0, 3, 7, 0, 0, 48, 112, 255])) (.cond (.var 25) (.seq (.region [⟨some (4, true), .mv (.const (.bool false)), none⟩] none) (.ret)) (.skip))
theorem F14L0_for : F14L0 = forBody 14 5 0 11 12 13 15 16 1 0 F14LB := rfl

set_option maxHeartbeats 1000000 in
theorem sound_s {sv : V} {sizes : List Int} (hs : VI sv sizes) (H : Heap) : Ans (.fn 54 [] []) [sv] H (.bool (sizes.all okSize)) := by
  unfold Ans
  have key := for_loop (tab := tab) (b := 7) (i := 3) (xs := 0) (t1 := 4) (t2 := 5) (t3 := 6) (t4 := 8) (t5 := 9) (blk := 1) (ex := 0) (es := 1) (body := F54LB)
    (I := fun k st => st.H = H ∧ st.low = H.length ∧ lookupE st.vE 0 = sv ∧ lookupE st.vE 3 = .int .i64 k ∧ ∀ n ∈ sizes.take k, okSize n = true)
    (Q := fun x st => st.H = H ∧ st.low = H.length ∧ ((x = .exit 0 ∧ sizes.all okSize = true) ∨ (x = .ret ∧ sizes.all okSize = false ∧ lookupE st.vE 2 = .bool false)))
    (N := sizes.length) hs.lt (by decide) (by decide) (by decide)
    (fun k st h => ⟨h.2.2.2.1, by rw [h.2.2.1]; exact hs.sl, by rw [h.2.2.1]; exact hs.len, by rw [h.1, h.2.1]; exact Nat.le_refl _⟩)
    (by
      rintro k st hk ⟨h1, h2, h3, h4, h7⟩
      obtain ⟨n, hn⟩ : ∃ n, sizes[k]? = some n := ⟨_, List.getElem?_eq_getElem hk⟩
      have hg := hs.get hn
      have hmem := List.mem_of_getElem? hn
      by_cases hok : okSize n = true
      · have a1 : ¬ n < 1 := by simp [okSize] at hok; omega
        have a2 : ¬ (6 : Int) < n := by simp [okSize] at hok; omega
        refine ⟨.normal, _, by simp [F54LB, callBody, zipE, execL_seq, execL_region, execL_cond, execL_skip, execL_ret, execL_exit, execL_block, execOps, wantedA, S_mv, S_pick, S_bin, S_un, S_call0, S_call1, S_extract, S_nilEq, S_load, S_alloc, S_box, Opd.ev, lookupE, lookE_setE, St.put, binA, unA, boolOf, freezeVs, freezeV, freeze1, isP, isPs, resultsA, resultA, finish, old, olds, flat, movedH_same, Nat.min_self, loadA, readCells, cellsV, h1, h2, h3, h4, S_index, hs.sl, hg, a1, a2]; rfl, ?_⟩
        simp only [true_or, if_true, lookE_setE, h1, h2]
        refine ⟨by simp [h4], by simp, by simp, by simp, by simp [h3], by simp, fun m hm => ?_⟩
        rw [List.take_add_one, hn] at hm
        simp at hm
        rcases hm with hm | rfl
        · exact h7 m hm
        · exact hok
      · have hf : sizes.all okSize = false := by rw [List.all_eq_false]; exact ⟨n, hmem, by simpa using hok⟩
        by_cases a1 : n < 1
        · refine ⟨.ret, _, by simp [F54LB, callBody, zipE, execL_seq, execL_region, execL_cond, execL_skip, execL_ret, execL_exit, execL_block, execOps, wantedA, S_mv, S_pick, S_bin, S_un, S_call0, S_call1, S_extract, S_nilEq, S_load, S_alloc, S_box, Opd.ev, lookupE, lookE_setE, St.put, binA, unA, boolOf, freezeVs, freezeV, freeze1, isP, isPs, resultsA, resultA, finish, old, olds, flat, movedH_same, Nat.min_self, loadA, readCells, cellsV, h1, h2, h3, h4, S_index, hs.sl, hg, a1]; rfl, ?_⟩
          simp only [reduceCtorEq, or_self, if_false]
          exact ⟨by simp, by simp, .inr ⟨trivial, hf, by simp [lookE_setE]⟩⟩
        · have a2 : (6 : Int) < n := by simp [okSize] at hok; omega
          refine ⟨.ret, _, by simp [F54LB, callBody, zipE, execL_seq, execL_region, execL_cond, execL_skip, execL_ret, execL_exit, execL_block, execOps, wantedA, S_mv, S_pick, S_bin, S_un, S_call0, S_call1, S_extract, S_nilEq, S_load, S_alloc, S_box, Opd.ev, lookupE, lookE_setE, St.put, binA, unA, boolOf, freezeVs, freezeV, freeze1, isP, isPs, resultsA, resultA, finish, old, olds, flat, movedH_same, Nat.min_self, loadA, readCells, cellsV, h1, h2, h3, h4, S_index, hs.sl, hg, a1, a2]; rfl, ?_⟩
          simp only [reduceCtorEq, or_self, if_false]
          exact ⟨by simp, by simp, .inr ⟨trivial, hf, by simp [lookE_setE]⟩⟩)
    (by
      rintro st ⟨h1, h2, h3, h4, h7⟩
      refine ⟨h1, h2, .inl ⟨rfl, ?_⟩⟩
      rw [List.all_eq_true]
      intro n hn
      exact h7 n (by rw [List.take_length]; exact hn))
  obtain ⟨x, st', h1, h2, h3, h4⟩ := key sizes.length 0 { tE := [], vE := [(0, sv), (2, .bool false), (3, .int .i64 0)], H := H, low := H.length } (by omega)
    ⟨rfl, rfl, rfl, rfl, fun m hm => by simp at hm⟩
  rw [← F54L0_for] at h1
  rw [callL_fn, show tab 54 = some (.code F54) from rfl]
  rcases h4 with ⟨rfl, h4⟩ | ⟨rfl, h4, h5⟩
  · rw [h4]; simp [F54, callBody, zipE, execL_seq, execL_region, execL_cond, execL_skip, execL_ret, execL_exit, execL_block, execOps, wantedA, S_mv, S_pick, S_bin, S_un, S_call0, S_call1, S_extract, S_nilEq, S_load, S_alloc, S_box, Opd.ev, lookupE, setE, St.put, binA, unA, boolOf, freezeVs, freezeV, freeze1, isP, isPs, resultsA, resultA, finish, old, olds, flat, movedH_same, Nat.min_self, loadA, readCells, cellsV, h1, h2, h3, lookE_setE]
  · rw [h4]; simp [F54, callBody, zipE, execL_seq, execL_region, execL_cond, execL_skip, execL_ret, execL_exit, execL_block, execOps, wantedA, S_mv, S_pick, S_bin, S_un, S_call0, S_call1, S_extract, S_nilEq, S_load, S_alloc, S_box, Opd.ev, lookupE, setE, St.put, binA, unA, boolOf, freezeVs, freezeV, freeze1, isP, isPs, resultsA, resultA, finish, old, olds, flat, movedH_same, Nat.min_self, loadA, readCells, cellsV, h1, h2, h3, h5, lookE_setE]

/-- The number of tuples, or 0. -/
def numR (sizes cols : List Int) : Int := if (goodCols sizes cols && sizes.all okSize) = true then prodI (dimsOf sizes cols) else 0

set_option maxHeartbeats 1000000 in
theorem num_loop {sv cv : V} {sizes cols : List Int} {H : Heap} (hs : VI sv sizes) (hc : VI cv cols) (hok : sizes.all okSize = true) (h3 : cols.length ≤ 3) :
    ∃ x st', execL tab (.loop F36L0) { tE := [], vE := [(0, sv), (1, cv), (4, .int .i64 0), (14, .bool false), (5, .int .i64 1), (6, .int .i64 0)], H := H, low := H.length } = some (x, st') ∧ st'.H = H ∧ st'.low = H.length ∧
      ((x = .exit 0 ∧ cols.any (badCol sizes) = false ∧ lookupE st'.vE 5 = .int .i64 (prodI (dimsOf sizes cols))) ∨ (x = .ret ∧ cols.any (badCol sizes) = true ∧ lookupE st'.vE 4 = .int .i64 0)) := by
  have hdl : (dimsOf sizes cols).length = cols.length := by simp [dimsOf]
  have key := for_loop (tab := tab) (b := 18) (i := 6) (xs := 1) (t1 := 15) (t2 := 16) (t3 := 17) (t4 := 19) (t5 := 20) (blk := 1) (ex := 0) (es := 1) (body := F36LB)
    (I := fun k st => st.H = H ∧ st.low = H.length ∧ lookupE st.vE 0 = sv ∧ lookupE st.vE 1 = cv ∧ lookupE st.vE 6 = .int .i64 k ∧ lookupE st.vE 5 = .int .i64 (prodI ((dimsOf sizes cols).take k)) ∧ (∀ c ∈ cols.take k, badCol sizes c = false) ∧ 1 ≤ prodI ((dimsOf sizes cols).take k) ∧ prodI ((dimsOf sizes cols).take k) ≤ 6 ^ k)
    (Q := fun x st' => st'.H = H ∧ st'.low = H.length ∧ ((x = .exit 0 ∧ cols.any (badCol sizes) = false ∧ lookupE st'.vE 5 = .int .i64 (prodI (dimsOf sizes cols))) ∨ (x = .ret ∧ cols.any (badCol sizes) = true ∧ lookupE st'.vE 4 = .int .i64 0)))
    (N := cols.length) hc.lt (by decide) (by decide) (by decide)
    (fun k st h => ⟨h.2.2.2.2.1, by rw [h.2.2.2.1]; exact hc.sl, by rw [h.2.2.2.1]; exact hc.len, by rw [h.1, h.2.1]; exact Nat.le_refl _⟩)
    (by
      rintro k st hk ⟨q1, q2, q3, q4, q5, q6, q7, q8, q9⟩
      obtain ⟨c, hn⟩ : ∃ c, cols[k]? = some c := ⟨_, List.getElem?_eq_getElem hk⟩
      have hg := hc.get hn
      have hmem := List.mem_of_getElem? hn
      cases hb : badCol sizes c with
      | true =>
        have hany : cols.any (badCol sizes) = true := List.any_eq_true.2 ⟨c, hmem, hb⟩
        by_cases a1 : c < 0
        · refine ⟨.ret, _, by simp [F36LB, callBody, zipE, execL_seq, execL_region, execL_cond, execL_skip, execL_ret, execL_exit, execL_block, execOps, wantedA, S_mv, S_pick, S_bin, S_un, S_call0, S_call1, S_extract, S_nilEq, S_load, S_alloc, S_box, Opd.ev, lookupE, lookE_setE, St.put, binA, unA, boolOf, freezeVs, freezeV, freeze1, isP, isPs, resultsA, resultA, finish, old, olds, flat, movedH_same, Nat.min_self, loadA, readCells, cellsV, q1, q2, q3, q4, q5, q6, S_index, hc.sl, hg, a1]; rfl, ?_⟩
          simp only [reduceCtorEq, or_self, if_false]
          exact ⟨by simp, by simp, .inr ⟨trivial, hany, by simp [lookE_setE]⟩⟩
        · have a2 : (sizes.length : Int) ≤ c := by simp [badCol] at hb; omega
          refine ⟨.ret, _, by simp [F36LB, callBody, zipE, execL_seq, execL_region, execL_cond, execL_skip, execL_ret, execL_exit, execL_block, execOps, wantedA, S_mv, S_pick, S_bin, S_un, S_call0, S_call1, S_extract, S_nilEq, S_load, S_alloc, S_box, Opd.ev, lookupE, lookE_setE, St.put, binA, unA, boolOf, freezeVs, freezeV, freeze1, isP, isPs, resultsA, resultA, finish, old, olds, flat, movedH_same, Nat.min_self, loadA, readCells, cellsV, q1, q2, q3, q4, q5, q6, S_index, hc.sl, S_len 1, hs.sl, hs.len, hg, a1, a2]; rfl, ?_⟩
          simp only [reduceCtorEq, or_self, if_false]
          exact ⟨by simp, by simp, .inr ⟨trivial, hany, by simp [lookE_setE]⟩⟩
      | false =>
        have hin : 0 ≤ c ∧ c < sizes.length := by simp [badCol] at hb; omega
        have a1 : ¬ c < 0 := by omega
        have a2 : ¬ (sizes.length : Int) ≤ c := by omega
        obtain ⟨d, hsd⟩ : ∃ d, sizes[c.toNat]? = some d := ⟨_, List.getElem?_eq_getElem (by omega)⟩
        have hgd := hs.get hsd
        have hdim : (dimsOf sizes cols)[k]? = some d := by simp [dimsOf, hn, hsd]
        have hdo : 1 ≤ d ∧ d ≤ 6 := by
          have := List.all_eq_true.1 hok d (List.mem_of_getElem? hsd)
          simpa [okSize] using this
        have hp := prodI_take hdim
        have hmb := mul_bound q8 q9 hdo.1 hdo.2
        have h216 := pow6 (k := k + 1) (by omega)
        have hw : IntKind.i64.wrap (prodI ((dimsOf sizes cols).take k) * d) = prodI ((dimsOf sizes cols).take (k + 1)) := by rw [hp, wrap_small] <;> omega
        refine ⟨.normal, _, by simp [F36LB, callBody, zipE, execL_seq, execL_region, execL_cond, execL_skip, execL_ret, execL_exit, execL_block, execOps, wantedA, S_mv, S_pick, S_bin, S_un, S_call0, S_call1, S_extract, S_nilEq, S_load, S_alloc, S_box, Opd.ev, lookupE, lookE_setE, St.put, binA, unA, boolOf, freezeVs, freezeV, freeze1, isP, isPs, resultsA, resultA, finish, old, olds, flat, movedH_same, Nat.min_self, loadA, readCells, cellsV, q1, q2, q3, q4, q5, q6, S_index, hc.sl, S_len 1, hs.sl, hs.len, hg, a1, a2, natOf_nonneg _ hin.1, hgd, hw]; rfl, ?_⟩
        simp only [true_or, if_true, lookE_setE, q1, q2]
        refine ⟨by simp [q5], by simp, by simp, by simp, by simp [q3], by simp [q4], by simp, by simp, fun m hm => ?_, by rw [hp]; exact hmb.1, by rw [hp]; exact hmb.2⟩
        rw [List.take_add_one, hn] at hm
        simp at hm
        rcases hm with hm | rfl
        · exact q7 m hm
        · exact hb)
    (by
      rintro st ⟨q1, q2, q3, q4, q5, q6, q7, q8, q9⟩
      refine ⟨q1, q2, .inl ⟨rfl, ?_, ?_⟩⟩
      · rw [List.any_eq_false]; intro c hcm; rw [q7 c (by rw [List.take_length]; exact hcm)]; decide
      · rw [List.take_of_length_le (by rw [hdl]; exact Nat.le_refl _)] at q6
        simp [lookE_setE, q6])
  have := key cols.length 0 { tE := [], vE := [(0, sv), (1, cv), (4, .int .i64 0), (14, .bool false), (5, .int .i64 1), (6, .int .i64 0)], H := H, low := H.length } (by omega) ⟨rfl, rfl, rfl, rfl, rfl, rfl, fun m hm => by simp at hm, by simp [prodI], by simp [prodI]⟩
  rw [← F36L0_for] at this
  exact this

set_option maxHeartbeats 1000000 in
theorem number_s {sv cv : V} {sizes cols : List Int} (hs : VI sv sizes) (hc : VI cv cols) (H : Heap) : Ans (.fn 36 [] []) [sv, cv] H (.int .i64 (numR sizes cols)) := by
  have hso := sound_s hs H
  unfold Ans at *
  rw [callL_fn, show tab 36 = some (.code F36) from rfl]
  by_cases h3 : cols.length ≤ 3
  · have h3' : ¬ (3 : Int) < (cols.length : Int) := by omega
    cases hok : sizes.all okSize with
    | false =>
      rw [hok] at hso
      have : numR sizes cols = 0 := by simp [numR, hok]
      rw [this]
      simp [F36, callBody, zipE, execL_seq, execL_region, execL_cond, execL_skip, execL_ret, execL_exit, execL_block, execOps, wantedA, S_mv, S_pick, S_bin, S_un, S_call0, S_call1, S_extract, S_nilEq, S_load, S_alloc, S_box, Opd.ev, lookupE, setE, St.put, binA, unA, boolOf, freezeVs, freezeV, freeze1, isP, isPs, resultsA, resultA, finish, old, olds, flat, movedH_same, Nat.min_self, loadA, readCells, cellsV, S_len 1, hc.sl, hc.len, h3', slE_isP hs.sl, hso]
    | true =>
      rw [hok] at hso
      obtain ⟨x, st', r1, r2, r3, r4⟩ := num_loop (H := H) hs hc hok h3
      rcases r4 with ⟨rfl, r4, r5⟩ | ⟨rfl, r4, r5⟩
      · have : numR sizes cols = prodI (dimsOf sizes cols) := by simp [numR, goodCols, h3, r4, hok]
        rw [this]
        simp [F36, callBody, zipE, execL_seq, execL_region, execL_cond, execL_skip, execL_ret, execL_exit, execL_block, execOps, wantedA, S_mv, S_pick, S_bin, S_un, S_call0, S_call1, S_extract, S_nilEq, S_load, S_alloc, S_box, Opd.ev, lookupE, setE, St.put, binA, unA, boolOf, freezeVs, freezeV, freeze1, isP, isPs, resultsA, resultA, finish, old, olds, flat, movedH_same, Nat.min_self, loadA, readCells, cellsV, S_len 1, hc.sl, hc.len, h3', slE_isP hs.sl, hso, r1, r2, r3, r5, lookE_setE]
      · have : numR sizes cols = 0 := by simp [numR, goodCols, r4]
        rw [this]
        simp [F36, callBody, zipE, execL_seq, execL_region, execL_cond, execL_skip, execL_ret, execL_exit, execL_block, execOps, wantedA, S_mv, S_pick, S_bin, S_un, S_call0, S_call1, S_extract, S_nilEq, S_load, S_alloc, S_box, Opd.ev, lookupE, setE, St.put, binA, unA, boolOf, freezeVs, freezeV, freeze1, isP, isPs, resultsA, resultA, finish, old, olds, flat, movedH_same, Nat.min_self, loadA, readCells, cellsV, S_len 1, hc.sl, hc.len, h3', slE_isP hs.sl, hso, r1, r2, r3, r5, lookE_setE]
  · have h3' : (3 : Int) < (cols.length : Int) := by omega
    have : numR sizes cols = 0 := by simp [numR, goodCols, h3]
    rw [this]
    simp [F36, callBody, zipE, execL_seq, execL_region, execL_cond, execL_skip, execL_ret, execL_exit, execL_block, execOps, wantedA, S_mv, S_pick, S_bin, S_un, S_call0, S_call1, S_extract, S_nilEq, S_load, S_alloc, S_box, Opd.ev, lookupE, setE, St.put, binA, unA, boolOf, freezeVs, freezeV, freeze1, isP, isPs, resultsA, resultA, finish, old, olds, flat, movedH_same, Nat.min_self, loadA, readCells, cellsV, S_len 1, hc.sl, hc.len, h3']

set_option maxHeartbeats 1000000 in
theorem ints_s {a b : V} {l m : List Int} (ha : VI a l) (hb : VI b m) (H : Heap) : Ans (.fn 14 [] []) [a, b] H (.bool (l == m)) := by
  unfold Ans
  rw [callL_fn, show tab 14 = some (.code F14) from rfl]
  by_cases hlen : l.length = m.length
  · have hlb : ((l.length : Int) != (m.length : Int)) = false := by simp [hlen]
    have key := for_loop (tab := tab) (b := 14) (i := 5) (xs := 0) (t1 := 11) (t2 := 12) (t3 := 13) (t4 := 15) (t5 := 16) (blk := 1) (ex := 0) (es := 1) (body := F14LB)
      (I := fun k st => st.H = H ∧ st.low = H.length ∧ lookupE st.vE 0 = a ∧ lookupE st.vE 1 = b ∧ lookupE st.vE 5 = .int .i64 k ∧ l.take k = m.take k)
      (Q := fun x st => st.H = H ∧ st.low = H.length ∧ ((x = .exit 0 ∧ l = m) ∨ (x = .ret ∧ l ≠ m ∧ lookupE st.vE 4 = .bool false)))
      (N := l.length) ha.lt (by decide) (by decide) (by decide)
      (fun k st h => ⟨h.2.2.2.2.1, by rw [h.2.2.1]; exact ha.sl, by rw [h.2.2.1]; exact ha.len, by rw [h.1, h.2.1]; exact Nat.le_refl _⟩)
      (by
        rintro k st hk ⟨h1, h2, h3, h4, h5, h7⟩
        obtain ⟨x, hx⟩ : ∃ x, l[k]? = some x := ⟨_, List.getElem?_eq_getElem hk⟩
        obtain ⟨y, hy⟩ : ∃ y, m[k]? = some y := ⟨_, List.getElem?_eq_getElem (by omega)⟩
        have hgx := ha.get hx
        have hgy := hb.get hy
        by_cases hxy : x = y
        · have e : (x != y) = false := by simp [hxy]
          refine ⟨.normal, _, by simp [F14LB, callBody, zipE, execL_seq, execL_region, execL_cond, execL_skip, execL_ret, execL_exit, execL_block, execOps, wantedA, S_mv, S_pick, S_bin, S_un, S_call0, S_call1, S_extract, S_nilEq, S_load, S_alloc, S_box, Opd.ev, lookupE, lookE_setE, St.put, binA, unA, boolOf, freezeVs, freezeV, freeze1, isP, isPs, resultsA, resultA, finish, old, olds, flat, movedH_same, Nat.min_self, loadA, readCells, cellsV, h1, h2, h3, h4, h5, S_index, ha.sl, hb.sl, hgx, hgy, e, inOrder]; rfl, ?_⟩
          simp only [true_or, if_true, lookE_setE, h1, h2]
          exact ⟨by simp [h5], by simp, by simp, by simp, by simp [h3], by simp [h4], by simp, by rw [List.take_add_one, List.take_add_one, h7, hx, hy, hxy]⟩
        · have e : (x != y) = true := by simp [hxy]
          refine ⟨.ret, _, by simp [F14LB, callBody, zipE, execL_seq, execL_region, execL_cond, execL_skip, execL_ret, execL_exit, execL_block, execOps, wantedA, S_mv, S_pick, S_bin, S_un, S_call0, S_call1, S_extract, S_nilEq, S_load, S_alloc, S_box, Opd.ev, lookupE, lookE_setE, St.put, binA, unA, boolOf, freezeVs, freezeV, freeze1, isP, isPs, resultsA, resultA, finish, old, olds, flat, movedH_same, Nat.min_self, loadA, readCells, cellsV, h1, h2, h3, h4, h5, S_index, ha.sl, hb.sl, hgx, hgy, e, inOrder]; rfl, ?_⟩
          simp only [reduceCtorEq, or_self, if_false]
          exact ⟨by simp, by simp, .inr ⟨trivial, fun h => by rw [h, hy] at hx; cases hx; exact hxy rfl, by simp [lookE_setE]⟩⟩)
      (by
        rintro st ⟨h1, h2, h3, h4, h5, h7⟩
        refine ⟨h1, h2, .inl ⟨rfl, ?_⟩⟩
        rw [List.take_length, List.take_of_length_le (by omega)] at h7
        exact h7)
    obtain ⟨x, st', h1, h2, h3, h4⟩ := key l.length 0 { tE := [], vE := [(0, a), (1, b), (4, .bool false), (10, .bool false), (5, .int .i64 0)], H := H, low := H.length } (by omega) ⟨rfl, rfl, rfl, rfl, rfl, rfl⟩
    rw [← F14L0_for] at h1
    rcases h4 with ⟨rfl, h4⟩ | ⟨rfl, h4, h5⟩
    · have e : (l == m) = true := by simp [h4]
      simp [F14, callBody, zipE, execL_seq, execL_region, execL_cond, execL_skip, execL_ret, execL_exit, execL_block, execOps, wantedA, S_mv, S_pick, S_bin, S_un, S_call0, S_call1, S_extract, S_nilEq, S_load, S_alloc, S_box, Opd.ev, lookupE, setE, St.put, binA, unA, boolOf, freezeVs, freezeV, freeze1, isP, isPs, resultsA, resultA, finish, old, olds, flat, movedH_same, Nat.min_self, loadA, readCells, cellsV, S_len 1, ha.sl, ha.len, hb.sl, hb.len, hlb, h1, h2, h3, e, lookE_setE]
    · have e : (l == m) = false := by simp [h4]
      simp [F14, callBody, zipE, execL_seq, execL_region, execL_cond, execL_skip, execL_ret, execL_exit, execL_block, execOps, wantedA, S_mv, S_pick, S_bin, S_un, S_call0, S_call1, S_extract, S_nilEq, S_load, S_alloc, S_box, Opd.ev, lookupE, setE, St.put, binA, unA, boolOf, freezeVs, freezeV, freeze1, isP, isPs, resultsA, resultA, finish, old, olds, flat, movedH_same, Nat.min_self, loadA, readCells, cellsV, S_len 1, ha.sl, ha.len, hb.sl, hb.len, hlb, h1, h2, h3, h5, e, lookE_setE]
  · have hlb : ((l.length : Int) != (m.length : Int)) = true := by simp; omega
    have e : (l == m) = false := by
      rw [Bool.eq_false_iff]; intro h; exact hlen (by rw [eq_of_beq h])
    simp [F14, callBody, zipE, execL_seq, execL_region, execL_cond, execL_skip, execL_ret, execL_exit, execL_block, execOps, wantedA, S_mv, S_pick, S_bin, S_un, S_call0, S_call1, S_extract, S_nilEq, S_load, S_alloc, S_box, Opd.ev, lookupE, setE, St.put, binA, unA, boolOf, freezeVs, freezeV, freeze1, isP, isPs, resultsA, resultA, finish, old, olds, flat, movedH_same, Nat.min_self, loadA, readCells, cellsV, S_len 1, ha.sl, ha.len, hb.sl, hb.len, hlb, e]
end Go.Abs.T09
/- The reference's Few. -/
namespace Go.Abs.T09
open Go Go.Abs

def fewT (t : Tb) : Bool := decide (t.name.length ≤ 40) && decide (t.cl.length ≤ 12)
def fewB (sizes : List Int) (ts : List Tb) : Bool := ts.all fewT && (decide (sizes.length ≤ 12) && decide (ts.length ≤ 20))

theorem cellsV_tb (t : Tb) : cellsV t.v = t.cells := rfl

set_option maxHeartbeats 1000000 in
theorem few_loop {sizes : List Int} {sv tv : V} {ts : List Tb} {H : Heap} (ht : VT tv ts) :
    ∀ (r : List Tb) (k : Nat) (st : St), ts.drop k = r → k ≤ ts.length → st.H = H → st.low = H.length → lookupE st.vE 0 = sv → lookupE st.vE 1 = tv → lookupE st.vE 5 = .int .i64 k →
      ∃ x st', execL tab (.loop F9L0) st = some (x, st') ∧ st'.H = H ∧ st'.low = H.length ∧ ((x = .exit 0 ∧ r.all fewT = true ∧ lookupE st'.vE 0 = sv ∧ lookupE st'.vE 1 = tv) ∨ (x = .ret ∧ r.all fewT = false ∧ lookupE st'.vE 4 = .bool false))
  | [], k, st, hr, hk, h1, h2, h3, h4, h5 => by
    have hle := drop_nil hr
    have hn : ¬ (k : Int) < (ts.length : Int) := by omega
    rw [execL_loop]
    refine ⟨.exit 0, _, by simp [F9L0, callBody, zipE, execL_seq, execL_region, execL_cond, execL_skip, execL_ret, execL_exit, execL_block, execOps, wantedA, S_mv, S_pick, S_bin, S_un, S_call0, S_call1, S_extract, S_nilEq, S_load, S_alloc, Opd.ev, lookupE, lookE_setE, St.put, binA, unA, boolOf, freezeVs, freezeV, freeze1, isP, isPs, resultsA, resultA, finish, old, olds, flat, movedH_same, Nat.min_self, loadA, readCells, cellsV_int, S_len 6, ht.sl, ht.len, h1, h2, h3, h4, h5, hn]; rfl, ?_⟩
    simp [lookE_setE, h1, h2, h3, h4]
  | t :: r, k, st, hr, hk, h1, h2, h3, h4, h5 => by
    obtain ⟨g1, g2, g3⟩ := drop_cons hr
    have hto := ht.ok t (List.mem_of_getElem? g1)
    have hg := ht.get g1
    have hn : (k : Int) < (ts.length : Int) := by omega
    have hw : IntKind.i64.wrap ((k : Int) + 1) = ((k + 1 : Nat) : Int) := by have := ht.lt; rw [wrap_small] <;> omega
    have key : fewT t = true → ∃ st1, execL tab F9L0 st = some (.normal, st1) ∧ st1.H = H ∧ st1.low = H.length ∧ lookupE st1.vE 0 = sv ∧ lookupE st1.vE 1 = tv ∧ lookupE st1.vE 5 = .int .i64 ((k + 1 : Nat) : Int) := fun hf => by
      simp only [fewT, Bool.and_eq_true, decide_eq_true_eq] at hf
      have a1 : ¬ (40 : Int) < (t.name.length : Int) := by omega
      have a2 : ¬ (12 : Int) < (t.cl.length : Int) := by omega
      refine ⟨_, by simp [F9L0, callBody, zipE, execL_seq, execL_region, execL_cond, execL_skip, execL_ret, execL_exit, execL_block, execOps, wantedA, S_mv, S_pick, S_bin, S_un, S_call0, S_call1, S_extract, S_nilEq, S_load, S_alloc, Opd.ev, lookupE, lookE_setE, St.put, binA, unA, boolOf, freezeVs, freezeV, freeze1, isP, isPs, resultsA, resultA, finish, old, olds, flat, movedH_same, Nat.min_self, loadA, readCells, cellsV_int, S_len 6, S_len 1, S_len0, S_index, S_fieldAddr, cellsV_tb, Tb.c0, Tb.e0, Tb.c2, Tb.e2, Tb.len, hto.cols.sl, hto.cols.len, ht.sl, ht.len, hg, h1, h2, h3, h4, h5, hn, a1, a2, hw]; rfl, ?_⟩
      simp [lookE_setE, h1, h2, h3, h4]
    rw [execL_loop]
    by_cases hf : fewT t = true
    · obtain ⟨st1, q1, q2, q3, q4, q5, q6⟩ := key hf
      obtain ⟨x, st', r1, r2, r3, r4⟩ := few_loop (sizes := sizes) ht r (k + 1) st1 g2 (by omega) q2 q3 q4 q5 q6
      refine ⟨x, st', by rw [q1]; exact r1, r2, r3, ?_⟩
      rw [List.all_cons, hf, Bool.true_and]; exact r4
    · have hf' : fewT t = false := by simpa using hf
      have ha : (t :: r).all fewT = false := by rw [List.all_cons, hf', Bool.false_and]
      by_cases b1 : (40 : Int) < (t.name.length : Int)
      · refine ⟨.ret, _, by simp [F9L0, callBody, zipE, execL_seq, execL_region, execL_cond, execL_skip, execL_ret, execL_exit, execL_block, execOps, wantedA, S_mv, S_pick, S_bin, S_un, S_call0, S_call1, S_extract, S_nilEq, S_load, S_alloc, Opd.ev, lookupE, lookE_setE, St.put, binA, unA, boolOf, freezeVs, freezeV, freeze1, isP, isPs, resultsA, resultA, finish, old, olds, flat, movedH_same, Nat.min_self, loadA, readCells, cellsV_int, S_len 6, S_len 1, S_len0, S_index, S_fieldAddr, cellsV_tb, Tb.c0, Tb.e0, Tb.c2, Tb.e2, Tb.len, hto.cols.sl, hto.cols.len, ht.sl, ht.len, hg, h1, h2, h3, h4, h5, hn, b1]; rfl, ?_⟩
        exact ⟨by simp, by simp, .inr ⟨rfl, ha, by simp [lookE_setE]⟩⟩
      · have b2 : (12 : Int) < (t.cl.length : Int) := by
          simp only [fewT, Bool.and_eq_false_iff, decide_eq_false_iff_not] at hf'
          rcases hf' with h | h <;> omega
        refine ⟨.ret, _, by simp [F9L0, callBody, zipE, execL_seq, execL_region, execL_cond, execL_skip, execL_ret, execL_exit, execL_block, execOps, wantedA, S_mv, S_pick, S_bin, S_un, S_call0, S_call1, S_extract, S_nilEq, S_load, S_alloc, Opd.ev, lookupE, lookE_setE, St.put, binA, unA, boolOf, freezeVs, freezeV, freeze1, isP, isPs, resultsA, resultA, finish, old, olds, flat, movedH_same, Nat.min_self, loadA, readCells, cellsV_int, S_len 6, S_len 1, S_len0, S_index, S_fieldAddr, cellsV_tb, Tb.c0, Tb.e0, Tb.c2, Tb.e2, Tb.len, hto.cols.sl, hto.cols.len, ht.sl, ht.len, hg, h1, h2, h3, h4, h5, hn, b1, b2]; rfl, ?_⟩
        exact ⟨by simp, by simp, .inr ⟨rfl, ha, by simp [lookE_setE]⟩⟩

theorem few_s {sizes : List Int} {sv tv : V} {ts : List Tb} (hs : VI sv sizes) (ht : VT tv ts) (H : Heap) : Ans (.fn 9 [] []) [sv, tv] H (.bool (fewB sizes ts)) := by
  unfold Ans
  rw [callL_fn, show tab 9 = some (.code F9) from rfl]
  obtain ⟨x, st', r1, r2, r3, r4⟩ := few_loop (sizes := sizes) (sv := sv) (H := H) ht ts 0 { tE := [], vE := [(0, sv), (1, tv), (4, .bool false), (5, .int .i64 0)], H := H, low := H.length } rfl (Nat.zero_le _) rfl rfl rfl rfl rfl
  have e1 : decide ((sizes.length : Int) ≤ 12) = decide (sizes.length ≤ 12) := by rw [decide_eq_decide]; omega
  have e2 : decide ((ts.length : Int) ≤ 20) = decide (ts.length ≤ 20) := by rw [decide_eq_decide]; omega
  unfold fewB
  rcases r4 with ⟨rfl, r4, r5, r6⟩ | ⟨rfl, r4, r5⟩
  · rw [r4]
    cases a1 : decide (sizes.length ≤ 12) <;> cases a2 : decide (ts.length ≤ 20) <;> simp [F9, callBody, zipE, execL_seq, execL_region, execL_cond, execL_skip, execL_ret, execL_exit, execL_block, execOps, wantedA, S_mv, S_pick, S_bin, S_un, S_call0, S_call1, S_extract, S_nilEq, S_load, S_alloc, Opd.ev, lookupE, setE, St.put, binA, unA, boolOf, freezeVs, freezeV, freeze1, isP, isPs, resultsA, resultA, finish, old, olds, flat, movedH_same, Nat.min_self, loadA, readCells, cellsV_int, r1, r2, r3, r5, r6, lookE_setE, S_len 1, S_len 6, hs.sl, hs.len, ht.sl, ht.len, e1, e2, a1, a2]
  · rw [r4]
    simp [F9, callBody, zipE, execL_seq, execL_region, execL_cond, execL_skip, execL_ret, execL_exit, execL_block, execOps, wantedA, S_mv, S_pick, S_bin, S_un, S_call0, S_call1, S_extract, S_nilEq, S_load, S_alloc, Opd.ev, lookupE, setE, St.put, binA, unA, boolOf, freezeVs, freezeV, freeze1, isP, isPs, resultsA, resultA, finish, old, olds, flat, movedH_same, Nat.min_self, loadA, readCells, cellsV_int, r1, r2, r3, r5, lookE_setE]
end Go.Abs.T09
