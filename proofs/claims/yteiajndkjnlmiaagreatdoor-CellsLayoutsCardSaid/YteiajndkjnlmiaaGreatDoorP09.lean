/- The reference's Valid: one table. -/
import Derived.Test.YteiajndkjnlmiaaGreatDoorP08
set_option linter.unusedVariables false
set_option linter.unusedSimpArgs false
namespace Go.Abs.T09
open Go Go.Abs

def F24LB : ACode := .seq (.region [⟨some (30, false), .mv (.var 1), none⟩, ⟨some (31, false), .mv (.var 7), none⟩, ⟨some (32, false), .indexAddr 6 (.tmp 30) (.tmp 31), none⟩, ⟨some (33, false), .load (some 6) (.tmp 32), none⟩, ⟨some (8, true), .alloc [.str [], .int .i64 0, .nil0, .int .i64 0, .int .i64 0, .int .i64 0], none⟩, ⟨none, .store 6 (.var 8) (.tmp 33), none⟩] none) (.seq (.seq (.region [⟨some (9, true), .mv (.const (.int .i64 0)), none⟩] none) (.block 2 (.loop F24L0))) (.seq (.region [⟨some (47, false), .mv (.var 0), none⟩, ⟨some (48, false), .fieldAddr 2 (.var 8), none⟩, ⟨some (49, false), .load none (.tmp 48), none⟩, ⟨some (50, false), .call false (.func 36) [(.tmp 47), (.tmp 49)], none⟩, ⟨some (10, true), .mv (.tmp 50), none⟩] none) (.seq (.seq (.region [⟨some (51, false), .fieldAddr 0 (.var 8), none⟩, ⟨some (52, false), .load none (.tmp 51), none⟩, ⟨some (53, false), .call false (.func 55) [(.tmp 52)], none⟩, ⟨some (54, false), .un .not (.tmp 53), none⟩, ⟨some (55, false), .mv (.tmp 54), none⟩, ⟨some (56, false), .fieldAddr 1 (.var 8), some ((.tmp 55), false)⟩, ⟨some (57, false), .load none (.tmp 56), some ((.tmp 55), false)⟩, ⟨some (58, false), .bin .lss (.tmp 57) (.const (.int .i64 0)), some ((.tmp 55), false)⟩, ⟨some (59, false), .pick (.tmp 55) (.const (.bool true)) (.tmp 58), none⟩, ⟨some (60, false), .mv (.tmp 59), none⟩, ⟨some (61, false), .fieldAddr 1 (.var 8), some ((.tmp 60), false)⟩, ⟨some (62, false), .load none (.tmp 61), some ((.tmp 60), false)⟩, ⟨some (63, false), .bin .gtr (.tmp 62) (.const (.int .i64 5)), some ((.tmp 60), false)⟩, ⟨some (64, false), .pick (.tmp 60) (.const (.bool true)) (.tmp 63), none⟩, ⟨some (65, false), .mv (.tmp 64), none⟩, ⟨some (66, false), .mv (.var 10), some ((.tmp 65), false)⟩, ⟨some (67, false), .bin .eql (.tmp 66) (.const (.int .i64 0)), some ((.tmp 65), false)⟩, ⟨some (68, true), .pick (.tmp 65) (.const (.bool true)) (.tmp 67), none⟩] none) (.cond (.var 68) (.seq (.region [⟨some (4, true), .mv (.const (.bool false)), none⟩] none) (.ret)) (.skip))) (.seq (.seq (.region [⟨some (69, false), .fieldAddr 3 (.var 8), none⟩, ⟨some (70, false), .fieldAddr 0 (.tmp 69), none⟩, ⟨some (71, false), .load none (.tmp 70), none⟩, ⟨some (72, false), .fieldAddr 3 (.var 8), none⟩, ⟨some (73, false), .fieldAddr 1 (.tmp 72), none⟩, ⟨some (74, false), .load none (.tmp 73), none⟩, ⟨some (75, false), .bin .gtr (.tmp 71) (.tmp 74), none⟩, ⟨some (76, false), .mv (.tmp 75), none⟩, ⟨some (77, false), .fieldAddr 3 (.var 8), some ((.tmp 76), false)⟩, ⟨some (78, false), .fieldAddr 0 (.tmp 77), some ((.tmp 76), false)⟩, ⟨some (79, false), .load none (.tmp 78), some ((.tmp 76), false)⟩, ⟨some (80, false), .bin .lss (.tmp 79) (.const (.int .i64 (-9999))), some ((.tmp 76), false)⟩, ⟨some (81, false), .pick (.tmp 76) (.const (.bool true)) (.tmp 80), none⟩, ⟨some (82, false), .mv (.tmp 81), none⟩, ⟨some (83, false), .fieldAddr 3 (.var 8), some ((.tmp 82), false)⟩, ⟨some (84, false), .fieldAddr 1 (.tmp 83), some ((.tmp 82), false)⟩, ⟨some (85, false), .load none (.tmp 84), some ((.tmp 82), false)⟩, ⟨some (86, false), .bin .gtr (.tmp 85) (.const (.int .i64 9999)), some ((.tmp 82), false)⟩, ⟨some (87, true), .pick (.tmp 82) (.const (.bool true)) (.tmp 86), none⟩] none) (.cond (.var 87) (.seq (.region [⟨some (4, true), .mv (.const (.bool false)), none⟩] none) (.ret)) (.skip))) (.seq (.seq (.region [⟨some (88, false), .fieldAddr 1 (.var 8), none⟩, ⟨some (89, false), .load none (.tmp 88), none⟩, ⟨some (90, false), .bin .eql (.tmp 89) (.const (.int .i64 0)), none⟩, ⟨some (91, false), .mv (.tmp 90), none⟩, ⟨some (92, false), .fieldAddr 1 (.var 8), some ((.tmp 91), false)⟩, ⟨some (93, false), .load none (.tmp 92), some ((.tmp 91), false)⟩, ⟨some (94, false), .bin .eql (.tmp 93) (.const (.int .i64 2)), some ((.tmp 91), false)⟩, ⟨some (95, false), .pick (.tmp 91) (.const (.bool true)) (.tmp 94), none⟩, ⟨some (96, false), .mv (.tmp 95), none⟩, ⟨some (97, false), .fieldAddr 1 (.var 8), some ((.tmp 96), false)⟩, ⟨some (98, false), .load none (.tmp 97), some ((.tmp 96), false)⟩, ⟨some (99, false), .bin .eql (.tmp 98) (.const (.int .i64 3)), some ((.tmp 96), false)⟩, ⟨some (100, false), .pick (.tmp 96) (.const (.bool true)) (.tmp 99), none⟩, ⟨some (101, false), .mv (.tmp 100), none⟩, ⟨some (102, false), .fieldAddr 3 (.var 8), some ((.tmp 101), true)⟩, ⟨some (103, false), .fieldAddr 0 (.tmp 102), some ((.tmp 101), true)⟩, ⟨some (104, false), .load none (.tmp 103), some ((.tmp 101), true)⟩, ⟨some (105, false), .bin .neq (.tmp 104) (.const (.int .i64 0)), some ((.tmp 101), true)⟩, ⟨some (106, false), .mv (.tmp 105), some ((.tmp 101), true)⟩, ⟨some (107, false), .fieldAddr 3 (.var 8), some ((.tmp 106), false)⟩, ⟨some (108, false), .fieldAddr 1 (.tmp 107), some ((.tmp 106), false)⟩, ⟨some (109, false), .load none (.tmp 108), some ((.tmp 106), false)⟩, ⟨some (110, false), .bin .neq (.tmp 109) (.const (.int .i64 1)), some ((.tmp 106), false)⟩, ⟨some (111, false), .pick (.tmp 106) (.const (.bool true)) (.tmp 110), some ((.tmp 101), true)⟩, ⟨some (112, true), .pick (.tmp 101) (.tmp 111) (.const (.bool false)), none⟩] none) (.cond (.var 112) (.seq (.region [⟨some (4, true), .mv (.const (.bool false)), none⟩] none) (.ret)) (.skip))) (.seq (.region [⟨some (113, false), .fieldAddr 1 (.var 8), none⟩, ⟨some (114, false), .load none (.tmp 113), none⟩, ⟨some (115, true), .call false (.func 35) [(.tmp 114)], none⟩] none) (.cond (.var 115) (.seq (.seq (.region [⟨some (116, false), .fieldAddr 5 (.var 8), none⟩, ⟨some (117, false), .load none (.tmp 116), none⟩, ⟨some (118, false), .mv (.var 5), none⟩, ⟨some (119, true), .bin .neq (.tmp 117) (.tmp 118), none⟩] none) (.cond (.var 119) (.seq (.region [⟨some (4, true), .mv (.const (.bool false)), none⟩] none) (.ret)) (.skip))) (.region [⟨some (120, false), .mv (.var 5), none⟩, ⟨some (121, false), .mv (.var 10), none⟩, ⟨some (122, false), .bin .add (.tmp 120) (.tmp 121), none⟩, ⟨some (5, true), .mv (.tmp 122), none⟩] none)) (.seq (.seq (.region [⟨some (123, false), .fieldAddr 5 (.var 8), none⟩, ⟨some (124, false), .load none (.tmp 123), none⟩, ⟨some (125, false), .mv (.var 6), none⟩, ⟨some (126, true), .bin .neq (.tmp 124) (.tmp 125), none⟩] none) (.cond (.var 126) (.seq (.region [⟨some (4, true), .mv (.const (.bool false)), none⟩] none) (.ret)) (.skip))) (.region [⟨some (127, false), .mv (.var 6), none⟩, ⟨some (128, false), .mv (.var 10), none⟩, ⟨some (129, false), .bin .add (.tmp 127) (.tmp 128), none⟩, ⟨some (6, true), .mv (.tmp 129), none⟩] none)))))))))
theorem F24L1_for : F24L1 = forBody 27 7 1 24 25 26 28 29 1 0 F24LB := rfl
def F24Pa : ACode := .region [⟨some (30, false), .mv (.var 1), none⟩, ⟨some (31, false), .mv (.var 7), none⟩, ⟨some (32, false), .indexAddr 6 (.tmp 30) (.tmp 31), none⟩, ⟨some (33, false), .load (some 6) (.tmp 32), none⟩, ⟨some (8, true), .alloc [.str [], .int .i64 0, .nil0, .int .i64 0, .int .i64 0, .int .i64 0], none⟩, ⟨none, .store 6 (.var 8) (.tmp 33), none⟩] none
def F24Pb : ACode := .seq (.region [⟨some (9, true), .mv (.const (.int .i64 0)), none⟩] none) (.block 2 (.loop F24L0))
def F24Pc : ACode := .region [⟨some (47, false), .mv (.var 0), none⟩, ⟨some (48, false), .fieldAddr 2 (.var 8), none⟩, ⟨some (49, false), .load none (.tmp 48), none⟩, ⟨some (50, false), .call false (.func 36) [(.tmp 47), (.tmp 49)], none⟩, ⟨some (10, true), .mv (.tmp 50), none⟩] none
def F24Pd : ACode := .seq (.region [⟨some (51, false), .fieldAddr 0 (.var 8), none⟩, ⟨some (52, false), .load none (.tmp 51), none⟩, ⟨some (53, false), .call false (.func 55) [(.tmp 52)], none⟩, ⟨some (54, false), .un .not (.tmp 53), none⟩, ⟨some (55, false), .mv (.tmp 54), none⟩, ⟨some (56, false), .fieldAddr 1 (.var 8), some ((.tmp 55), false)⟩, ⟨some (57, false), .load none (.tmp 56), some ((.tmp 55), false)⟩, ⟨some (58, false), .bin .lss (.tmp 57) (.const (.int .i64 0)), some ((.tmp 55), false)⟩, ⟨some (59, false), .pick (.tmp 55) (.const (.bool true)) (.tmp 58), none⟩, ⟨some (60, false), .mv (.tmp 59), none⟩, ⟨some (61, false), .fieldAddr 1 (.var 8), some ((.tmp 60), false)⟩, ⟨some (62, false), .load none (.tmp 61), some ((.tmp 60), false)⟩, ⟨some (63, false), .bin .gtr (.tmp 62) (.const (.int .i64 5)), some ((.tmp 60), false)⟩, ⟨some (64, false), .pick (.tmp 60) (.const (.bool true)) (.tmp 63), none⟩, ⟨some (65, false), .mv (.tmp 64), none⟩, ⟨some (66, false), .mv (.var 10), some ((.tmp 65), false)⟩, ⟨some (67, false), .bin .eql (.tmp 66) (.const (.int .i64 0)), some ((.tmp 65), false)⟩, ⟨some (68, true), .pick (.tmp 65) (.const (.bool true)) (.tmp 67), none⟩] none) (.cond (.var 68) (.seq (.region [⟨some (4, true), .mv (.const (.bool false)), none⟩] none) (.ret)) (.skip))
def F24Pe : ACode := .seq (.region [⟨some (69, false), .fieldAddr 3 (.var 8), none⟩, ⟨some (70, false), .fieldAddr 0 (.tmp 69), none⟩, ⟨some (71, false), .load none (.tmp 70), none⟩, ⟨some (72, false), .fieldAddr 3 (.var 8), none⟩, ⟨some (73, false), .fieldAddr 1 (.tmp 72), none⟩, ⟨some (74, false), .load none (.tmp 73), none⟩, ⟨some (75, false), .bin .gtr (.tmp 71) (.tmp 74), none⟩, ⟨some (76, false), .mv (.tmp 75), none⟩, ⟨some (77, false), .fieldAddr 3 (.var 8), some ((.tmp 76), false)⟩, ⟨some (78, false), .fieldAddr 0 (.tmp 77), some ((.tmp 76), false)⟩, ⟨some (79, false), .load none (.tmp 78), some ((.tmp 76), false)⟩, ⟨some (80, false), .bin .lss (.tmp 79) (.const (.int .i64 (-9999))), some ((.tmp 76), false)⟩, ⟨some (81, false), .pick (.tmp 76) (.const (.bool true)) (.tmp 80), none⟩, ⟨some (82, false), .mv (.tmp 81), none⟩, ⟨some (83, false), .fieldAddr 3 (.var 8), some ((.tmp 82), false)⟩, ⟨some (84, false), .fieldAddr 1 (.tmp 83), some ((.tmp 82), false)⟩, ⟨some (85, false), .load none (.tmp 84), some ((.tmp 82), false)⟩, ⟨some (86, false), .bin .gtr (.tmp 85) (.const (.int .i64 9999)), some ((.tmp 82), false)⟩, ⟨some (87, true), .pick (.tmp 82) (.const (.bool true)) (.tmp 86), none⟩] none) (.cond (.var 87) (.seq (.region [⟨some (4, true), .mv (.const (.bool false)), none⟩] none) (.ret)) (.skip))
def F24Pf : ACode := .seq (.region [⟨some (88, false), .fieldAddr 1 (.var 8), none⟩, ⟨some (89, false), .load none (.tmp 88), none⟩, ⟨some (90, false), .bin .eql (.tmp 89) (.const (.int .i64 0)), none⟩, ⟨some (91, false), .mv (.tmp 90), none⟩, ⟨some (92, false), .fieldAddr 1 (.var 8), some ((.tmp 91), false)⟩, ⟨some (93, false), .load none (.tmp 92), some ((.tmp 91), false)⟩, ⟨some (94, false), .bin .eql (.tmp 93) (.const (.int .i64 2)), some ((.tmp 91), false)⟩, ⟨some (95, false), .pick (.tmp 91) (.const (.bool true)) (.tmp 94), none⟩, ⟨some (96, false), .mv (.tmp 95), none⟩, ⟨some (97, false), .fieldAddr 1 (.var 8), some ((.tmp 96), false)⟩, ⟨some (98, false), .load none (.tmp 97), some ((.tmp 96), false)⟩, ⟨some (99, false), .bin .eql (.tmp 98) (.const (.int .i64 3)), some ((.tmp 96), false)⟩, ⟨some (100, false), .pick (.tmp 96) (.const (.bool true)) (.tmp 99), none⟩, ⟨some (101, false), .mv (.tmp 100), none⟩, ⟨some (102, false), .fieldAddr 3 (.var 8), some ((.tmp 101), true)⟩, ⟨some (103, false), .fieldAddr 0 (.tmp 102), some ((.tmp 101), true)⟩, ⟨some (104, false), .load none (.tmp 103), some ((.tmp 101), true)⟩, ⟨some (105, false), .bin .neq (.tmp 104) (.const (.int .i64 0)), some ((.tmp 101), true)⟩, ⟨some (106, false), .mv (.tmp 105), some ((.tmp 101), true)⟩, ⟨some (107, false), .fieldAddr 3 (.var 8), some ((.tmp 106), false)⟩, ⟨some (108, false), .fieldAddr 1 (.tmp 107), some ((.tmp 106), false)⟩, ⟨some (109, false), .load none (.tmp 108), some ((.tmp 106), false)⟩, ⟨some (110, false), .bin .neq (.tmp 109) (.const (.int .i64 1)), some ((.tmp 106), false)⟩, ⟨some (111, false), .pick (.tmp 106) (.const (.bool true)) (.tmp 110), some ((.tmp 101), true)⟩, ⟨some (112, true), .pick (.tmp 101) (.tmp 111) (.const (.bool false)), none⟩] none) (.cond (.var 112) (.seq (.region [⟨some (4, true), .mv (.const (.bool false)), none⟩] none) (.ret)) (.skip))
def F24Pg : ACode := .region [⟨some (113, false), .fieldAddr 1 (.var 8), none⟩, ⟨some (114, false), .load none (.tmp 113), none⟩, ⟨some (115, true), .call false (.func 35) [(.tmp 114)], none⟩] none
def F24Ph : ACode := .cond (.var 115) (.seq (.seq (.region [⟨some (116, false), .fieldAddr 5 (.var 8), none⟩, ⟨some (117, false), .load none (.tmp 116), none⟩, ⟨some (118, false), .mv (.var 5), none⟩, ⟨some (119, true), .bin .neq (.tmp 117) (.tmp 118), none⟩] none) (.cond (.var 119) (.seq (.region [⟨some (4, true), .mv (.const (.bool false)), none⟩] none) (.ret)) (.skip))) (.region [⟨some (120, false), .mv (.var 5), none⟩, ⟨some (121, false), .mv (.var 10), none⟩, ⟨some (122, false), .bin .add (.tmp 120) (.tmp 121), none⟩, ⟨some (5, true), .mv (.tmp 122), none⟩] none)) (.seq (.seq (.region [⟨some (123, false), .fieldAddr 5 (.var 8), none⟩, ⟨some (124, false), .load none (.tmp 123), none⟩, ⟨some (125, false), .mv (.var 6), none⟩, ⟨some (126, true), .bin .neq (.tmp 124) (.tmp 125), none⟩] none) (.cond (.var 126) (.seq (.region [⟨some (4, true), .mv (.const (.bool false)), none⟩] none) (.ret)) (.skip))) (.region [⟨some (127, false), .mv (.var 6), none⟩, ⟨some (128, false), .mv (.var 10), none⟩, ⟨some (129, false), .bin .add (.tmp 127) (.tmp 128), none⟩, ⟨some (6, true), .mv (.tmp 129), none⟩] none))
theorem F24LB_parts : F24LB = .seq F24Pa (.seq F24Pb (.seq F24Pc (.seq F24Pd (.seq F24Pe (.seq F24Pf (.seq F24Pg (F24Ph))))))) := rfl

/-- The variables while the reference's Valid looks at a table. -/
structure W (sv tv : V) (a b : Int) (k p : Nat) (e : Env) : Prop where
  v0 : lookupE e 0 = sv
  v1 : lookupE e 1 = tv
  v5 : lookupE e 5 = .int .i64 a
  v6 : lookupE e 6 = .int .i64 b
  v7 : lookupE e 7 = .int .i64 k
  v8 : lookupE e 8 = .ptr p 0

def okD (t : Tb) (m : Int) : Bool := nameOk t.name && (decide (0 ≤ t.kind) && (decide (t.kind ≤ 5) && !(m == 0)))
def okE (t : Tb) : Bool := decide (t.lo ≤ t.hi) && (decide (-9999 ≤ t.lo) && decide (t.hi ≤ 9999))
def setK (t : Tb) : Bool := t.kind == 0 || (t.kind == 2 || t.kind == 3)
def okF (t : Tb) : Bool := !setK t || (t.lo == 0 && t.hi == 1)

section
variable {sizes : List Int} {sv tv : V} {ts : List Tb} {n k p : Nat} {t : Tb} {a b m : Int} {H : Heap} {st : St}

theorem w_a (hsl : slE 6 tv = true) (hg : (el tv)[k]? = some t.v) (ht : TbOk t) (h1 : st.H = H) (hlow : st.low = n) (hn : n ≤ H.length)
    (l0 : lookupE st.vE 0 = sv) (l1 : lookupE st.vE 1 = tv) (l5 : lookupE st.vE 5 = .int .i64 a) (l6 : lookupE st.vE 6 = .int .i64 b) (l7 : lookupE st.vE 7 = .int .i64 k) :
    ∃ st', execL tab F24Pa st = some (.normal, st') ∧ st'.H = H ++ [.cells t.cells] ∧ st'.low = n ∧ W sv tv a b k H.length st'.vE := by
  have hco := ht.cells
  have hset : setCells [V.str [], .int .i64 0, .nil0, .int .i64 0, .int .i64 0, .int .i64 0] 0 t.cells = t.cells := rfl
  refine ⟨_, by simp [F24Pa, callBody, zipE, execL_seq, execL_region, execL_cond, execL_skip, execL_ret, execL_exit, execL_block, execOps, wantedA, S_mv, S_pick, S_bin, S_un, S_call0, S_call1, S_extract, S_nilEq, S_load, S_alloc, Opd.ev, lookupE, lookE_setE, St.put, binA, unA, boolOf, freezeVs, freezeV, freeze1, isP, isPs, resultsA, resultA, finish, old, olds, flat, movedH_same, Nat.min_self, loadA, readCells, cellsV_int, l1, l7, S_index, hsl, hg, Tb.v, cellsV_agg, Tb.len, Tb.t6, S_store, storeA, hco, hset, h1, hlow]; rfl, ?_⟩
  exact ⟨by simp, by first | (simp; done) | (simp; omega), by simp [lookE_setE, l0], by simp [lookE_setE, l1], by simp [lookE_setE, l5], by simp [lookE_setE, l6], by simp [lookE_setE, l7], by simp [lookE_setE]⟩

set_option maxHeartbeats 1000000 in
theorem w_dup (htv : VT tv ts) (hk : k ≤ ts.length) (ht : TbOk t) (hn : n ≤ H.length) (hp : H[p]? = some (.cells t.cells)) :
    ∀ (r j : Nat) (st : St), j + r = k → st.H = H → st.low = n → W sv tv a b k p st.vE → lookupE st.vE 9 = .int .i64 j → (∀ u ∈ ts.take j, u.name ≠ t.name) →
      ∃ x st', execL tab (.loop F24L0) st = some (x, st') ∧ st'.H = H ∧ st'.low = n ∧ ((x = .exit 2 ∧ ((ts.take k).map (·.name)).contains t.name = false ∧ W sv tv a b k p st'.vE) ∨ (x = .ret ∧ ((ts.take k).map (·.name)).contains t.name = true ∧ lookupE st'.vE 4 = .bool false)) := by
  have hpE : ∀ h : p < H.length, H[p]'h = .cells t.cells := fun h => by rw [List.getElem?_eq_getElem h] at hp; exact Option.some.inj hp
  have n0 : min n H.length = n := Nat.min_eq_left hn
  intro r
  induction r with
  | zero =>
    intro j st hj h1 h2 w h9 hpre
    have hd : ¬ (j : Int) < (k : Int) := by omega
    rw [execL_loop]
    refine ⟨.exit 2, _, by simp [F24L0, callBody, zipE, execL_seq, execL_region, execL_cond, execL_skip, execL_ret, execL_exit, execL_block, execOps, wantedA, S_mv, S_pick, S_bin, S_un, S_call0, S_call1, S_extract, S_nilEq, S_load, S_alloc, Opd.ev, lookupE, lookE_setE, St.put, binA, unA, boolOf, freezeVs, freezeV, freeze1, isP, isPs, resultsA, resultA, finish, old, olds, flat, movedH_same, Nat.min_self, loadA, readCells, cellsV_int, h1, h2, w.v7, h9, hd, n0]; rfl, ?_⟩
    have hjk : j = k := by omega
    subst hjk
    refine ⟨by simp [h1], by simp [h1, h2, n0], .inl ⟨rfl, ?_, ?_⟩⟩
    · rw [Bool.eq_false_iff]
      intro h
      simp only [List.contains_iff_mem, List.mem_map] at h
      obtain ⟨u, hu, e⟩ := h
      exact hpre u hu e
    · exact ⟨by simp [lookE_setE, w.v0], by simp [lookE_setE, w.v1], by simp [lookE_setE, w.v5], by simp [lookE_setE, w.v6], by simp [lookE_setE, w.v7], by simp [lookE_setE, w.v8]⟩
  | succ r ih =>
    intro j st hj h1 h2 w h9 hpre
    have hjk : j < k := by omega
    obtain ⟨u, g1⟩ : ∃ u, ts[j]? = some u := ⟨_, List.getElem?_eq_getElem (by omega)⟩
    have hg := htv.get g1
    have hd : (j : Int) < (k : Int) := by omega
    have hlt := htv.lt
    have hw : IntKind.i64.wrap ((j : Int) + 1) = ((j + 1 : Nat) : Int) := by rw [wrap_small] <;> omega
    rw [execL_loop]
    cases he : (u.name == t.name) with
    | true =>
      refine ⟨.ret, _, by simp [F24L0, callBody, zipE, execL_seq, execL_region, execL_cond, execL_skip, execL_ret, execL_exit, execL_block, execOps, wantedA, S_mv, S_pick, S_bin, S_un, S_call0, S_call1, S_extract, S_nilEq, S_load, S_alloc, Opd.ev, lookupE, lookE_setE, St.put, binA, unA, boolOf, freezeVs, freezeV, freeze1, isP, isPs, resultsA, resultA, finish, old, olds, flat, movedH_same, Nat.min_self, loadA, readCells, cellsV_int, h1, h2, w.v1, w.v7, w.v8, h9, hd, n0, S_index, htv.sl, hg, S_fieldAddr, cellsV_tb, Tb.c0, Tb.e0, Tb.len, hp, hpE, he, inOrder]; rfl, ?_⟩
      refine ⟨by simp [h1], by simp [h1, h2, n0], .inr ⟨rfl, ?_, by simp [lookE_setE]⟩⟩
      simp only [List.contains_iff_mem, List.mem_map]
      have hku : (ts.take k)[j]? = some u := by rw [List.getElem?_take, if_pos hjk]; exact g1
      exact ⟨u, List.mem_of_getElem? hku, by simpa using he⟩
    | false =>
      have hne : u.name ≠ t.name := by simpa using he
      have step1 : ∃ st1, execL tab F24L0 st = some (.normal, st1) ∧ st1.H = H ∧ st1.low = n ∧ W sv tv a b k p st1.vE ∧ lookupE st1.vE 9 = .int .i64 ((j + 1 : Nat) : Int) := by
        refine ⟨_, by simp [F24L0, callBody, zipE, execL_seq, execL_region, execL_cond, execL_skip, execL_ret, execL_exit, execL_block, execOps, wantedA, S_mv, S_pick, S_bin, S_un, S_call0, S_call1, S_extract, S_nilEq, S_load, S_alloc, Opd.ev, lookupE, lookE_setE, St.put, binA, unA, boolOf, freezeVs, freezeV, freeze1, isP, isPs, resultsA, resultA, finish, old, olds, flat, movedH_same, Nat.min_self, loadA, readCells, cellsV_int, h1, h2, w.v1, w.v7, w.v8, h9, hd, n0, S_index, htv.sl, hg, S_fieldAddr, cellsV_tb, Tb.c0, Tb.e0, Tb.len, hp, hpE, he, inOrder, hw]; rfl, ?_⟩
        exact ⟨by simp [h1], by simp [h1, h2, n0], ⟨by simp [lookE_setE, w.v0], by simp [lookE_setE, w.v1], by simp [lookE_setE, w.v5], by simp [lookE_setE, w.v6], by simp [lookE_setE, w.v7], by simp [lookE_setE, w.v8]⟩, by simp [lookE_setE]⟩
      obtain ⟨st1, q1, q2, q3, q4, q5⟩ := step1
      rw [q1]
      refine ih (j + 1) st1 (by omega) q2 q3 q4 q5 fun v hv => ?_
      rw [List.take_add_one, g1] at hv
      simp at hv
      rcases hv with hv | rfl
      · exact hpre v hv
      · exact hne

theorem w_b (htv : VT tv ts) (hk : k ≤ ts.length) (ht : TbOk t) (hn : n ≤ H.length) (hp : H[p]? = some (.cells t.cells)) (h1 : st.H = H) (h2 : st.low = n) (w : W sv tv a b k p st.vE) :
    ∃ x st', execL tab F24Pb st = some (x, st') ∧ st'.H = H ∧ st'.low = n ∧ ((x = .normal ∧ ((ts.take k).map (·.name)).contains t.name = false ∧ W sv tv a b k p st'.vE) ∨ (x = .ret ∧ ((ts.take k).map (·.name)).contains t.name = true ∧ lookupE st'.vE 4 = .bool false)) := by
  have n0 : min n H.length = n := Nat.min_eq_left hn
  obtain ⟨st1, e1, e2, e3, e4, e5⟩ : ∃ st1, execL tab (.region [⟨some (9, true), .mv (.const (.int .i64 0)), none⟩] none) st = some (.normal, st1) ∧ st1.H = H ∧ st1.low = n ∧ W sv tv a b k p st1.vE ∧ lookupE st1.vE 9 = .int .i64 (0 : Nat) := by
    refine ⟨_, by simp [callBody, zipE, execL_seq, execL_region, execL_cond, execL_skip, execL_ret, execL_exit, execL_block, execOps, wantedA, S_mv, S_pick, S_bin, S_un, S_call0, S_call1, S_extract, S_nilEq, S_load, S_alloc, Opd.ev, lookupE, lookE_setE, St.put, binA, unA, boolOf, freezeVs, freezeV, freeze1, isP, isPs, resultsA, resultA, finish, old, olds, flat, movedH_same, Nat.min_self, loadA, readCells, cellsV_int, h1, h2, n0]; rfl, ?_⟩
    exact ⟨by simp [h1], by simp [h2], ⟨by simp [lookE_setE, w.v0], by simp [lookE_setE, w.v1], by simp [lookE_setE, w.v5], by simp [lookE_setE, w.v6], by simp [lookE_setE, w.v7], by simp [lookE_setE, w.v8]⟩, by simp [lookE_setE]⟩
  obtain ⟨x, st', r1, r2, r3, r4⟩ := w_dup htv hk ht hn hp k 0 st1 (by omega) e2 e3 e4 e5 (fun u hu => by simp at hu)
  rcases r4 with ⟨rfl, r4, r5⟩ | ⟨rfl, r4, r5⟩
  · exact ⟨.normal, st', by rw [F24Pb, execL_seq, e1]; simp only []; rw [execL_block, r1]; rfl, r2, r3, .inl ⟨rfl, r4, r5⟩⟩
  · exact ⟨.ret, st', by rw [F24Pb, execL_seq, e1]; simp only []; rw [execL_block, r1], r2, r3, .inr ⟨rfl, r4, r5⟩⟩

theorem w_c (hs : VI sv sizes) (ht : TbOk t) (hn : n ≤ H.length) (hp : H[p]? = some (.cells t.cells)) (h1 : st.H = H) (h2 : st.low = n) (w : W sv tv a b k p st.vE) :
    ∃ st', execL tab F24Pc st = some (.normal, st') ∧ st'.H = H ∧ st'.low = n ∧ W sv tv a b k p st'.vE ∧ lookupE st'.vE 10 = .int .i64 (numR sizes t.cl) := by
  have hpE : ∀ h : p < H.length, H[p]'h = .cells t.cells := fun h => by rw [List.getElem?_eq_getElem h] at hp; exact Option.some.inj hp
  have n0 : min n H.length = n := Nat.min_eq_left hn
  have c := number_s hs ht.cols H
  unfold Ans at c
  refine ⟨_, by simp [F24Pc, callBody, zipE, execL_seq, execL_region, execL_cond, execL_skip, execL_ret, execL_exit, execL_block, execOps, wantedA, S_mv, S_pick, S_bin, S_un, S_call0, S_call1, S_extract, S_nilEq, S_load, S_alloc, Opd.ev, lookupE, lookE_setE, St.put, binA, unA, boolOf, freezeVs, freezeV, freeze1, isP, isPs, resultsA, resultA, finish, old, olds, flat, movedH_same, Nat.min_self, loadA, readCells, cellsV_int, h1, h2, w.v0, w.v8, n0, S_fieldAddr, Tb.c2, Tb.e2, Tb.len, hp, hpE, hs.isP, ht.cols.isP, c]; rfl, ?_⟩
  exact ⟨by simp [h1], by simp [h2], ⟨by simp [lookE_setE, w.v0], by simp [lookE_setE, w.v1], by simp [lookE_setE, w.v5], by simp [lookE_setE, w.v6], by simp [lookE_setE, w.v7], by simp [lookE_setE, w.v8]⟩, by simp [lookE_setE]⟩

set_option maxHeartbeats 2000000 in
theorem w_d (ht : TbOk t) (hl : t.name.length ≤ 4096) (hn : n ≤ H.length) (hp : H[p]? = some (.cells t.cells)) (h1 : st.H = H) (h2 : st.low = n) (w : W sv tv a b k p st.vE) (l10 : lookupE st.vE 10 = .int .i64 m) :
    ∃ x st', execL tab F24Pd st = some (x, st') ∧ st'.H = H ∧ st'.low = n ∧ ((x = .normal ∧ okD t m = true ∧ W sv tv a b k p st'.vE ∧ lookupE st'.vE 10 = .int .i64 m) ∨ (x = .ret ∧ okD t m = false ∧ lookupE st'.vE 4 = .bool false)) := by
  have hpE : ∀ h : p < H.length, H[p]'h = .cells t.cells := fun h => by rw [List.getElem?_eq_getElem h] at hp; exact Option.some.inj hp
  have n0 : min n H.length = n := Nat.min_eq_left hn
  have c := name2_s (w := t.name) hl H
  unfold Ans at c
  unfold okD
  generalize nameOk t.name = A at *
  by_cases hA : A = true
  · subst hA
    by_cases b1 : t.kind < 0
    · have d1 : decide (0 ≤ t.kind) = false := by simp; omega
      refine ⟨.ret, _, by simp [F24Pd, callBody, zipE, execL_seq, execL_region, execL_cond, execL_skip, execL_ret, execL_exit, execL_block, execOps, wantedA, S_mv, S_pick, S_bin, S_un, S_call0, S_call1, S_extract, S_nilEq, S_load, S_alloc, Opd.ev, lookupE, lookE_setE, St.put, binA, unA, boolOf, freezeVs, freezeV, freeze1, isP, isPs, resultsA, resultA, finish, old, olds, flat, movedH_same, Nat.min_self, loadA, readCells, cellsV_int, h1, h2, w.v8, l10, n0, S_fieldAddr, Tb.c0, Tb.e0, Tb.c1, Tb.e1, Tb.len, hp, hpE, c, b1]; rfl, by simp [h1], by simp [h2], .inr ⟨rfl, by simp [d1], by simp [lookE_setE]⟩⟩
    · have d1 : decide (0 ≤ t.kind) = true := by simp; omega
      by_cases b2 : 5 < t.kind
      · have d2 : decide (t.kind ≤ 5) = false := by simp; omega
        refine ⟨.ret, _, by simp [F24Pd, callBody, zipE, execL_seq, execL_region, execL_cond, execL_skip, execL_ret, execL_exit, execL_block, execOps, wantedA, S_mv, S_pick, S_bin, S_un, S_call0, S_call1, S_extract, S_nilEq, S_load, S_alloc, Opd.ev, lookupE, lookE_setE, St.put, binA, unA, boolOf, freezeVs, freezeV, freeze1, isP, isPs, resultsA, resultA, finish, old, olds, flat, movedH_same, Nat.min_self, loadA, readCells, cellsV_int, h1, h2, w.v8, l10, n0, S_fieldAddr, Tb.c0, Tb.e0, Tb.c1, Tb.e1, Tb.len, hp, hpE, c, b1, b2]; rfl, by simp [h1], by simp [h2], .inr ⟨rfl, by simp [d2], by simp [lookE_setE]⟩⟩
      · have d2 : decide (t.kind ≤ 5) = true := by simp; omega
        cases b3 : (m == 0) with
        | true => refine ⟨.ret, _, by simp [F24Pd, callBody, zipE, execL_seq, execL_region, execL_cond, execL_skip, execL_ret, execL_exit, execL_block, execOps, wantedA, S_mv, S_pick, S_bin, S_un, S_call0, S_call1, S_extract, S_nilEq, S_load, S_alloc, Opd.ev, lookupE, lookE_setE, St.put, binA, unA, boolOf, freezeVs, freezeV, freeze1, isP, isPs, resultsA, resultA, finish, old, olds, flat, movedH_same, Nat.min_self, loadA, readCells, cellsV_int, h1, h2, w.v8, l10, n0, S_fieldAddr, Tb.c0, Tb.e0, Tb.c1, Tb.e1, Tb.len, hp, hpE, c, b1, b2, b3]; rfl, by simp [h1], by simp [h2], .inr ⟨rfl, by simp, by simp [lookE_setE]⟩⟩
        | false =>
          refine ⟨.normal, _, by simp [F24Pd, callBody, zipE, execL_seq, execL_region, execL_cond, execL_skip, execL_ret, execL_exit, execL_block, execOps, wantedA, S_mv, S_pick, S_bin, S_un, S_call0, S_call1, S_extract, S_nilEq, S_load, S_alloc, Opd.ev, lookupE, lookE_setE, St.put, binA, unA, boolOf, freezeVs, freezeV, freeze1, isP, isPs, resultsA, resultA, finish, old, olds, flat, movedH_same, Nat.min_self, loadA, readCells, cellsV_int, h1, h2, w.v8, l10, n0, S_fieldAddr, Tb.c0, Tb.e0, Tb.c1, Tb.e1, Tb.len, hp, hpE, c, b1, b2, b3]; rfl, by simp [h1], by simp [h2], .inl ⟨rfl, by simp [d1, d2], ?_⟩⟩
          exact ⟨⟨by simp [lookE_setE, w.v0], by simp [lookE_setE, w.v1], by simp [lookE_setE, w.v5], by simp [lookE_setE, w.v6], by simp [lookE_setE, w.v7], by simp [lookE_setE, w.v8]⟩, by simp [lookE_setE, l10]⟩
  · have hA : A = false := by simpa using hA
    subst hA
    refine ⟨.ret, _, by simp [F24Pd, callBody, zipE, execL_seq, execL_region, execL_cond, execL_skip, execL_ret, execL_exit, execL_block, execOps, wantedA, S_mv, S_pick, S_bin, S_un, S_call0, S_call1, S_extract, S_nilEq, S_load, S_alloc, Opd.ev, lookupE, lookE_setE, St.put, binA, unA, boolOf, freezeVs, freezeV, freeze1, isP, isPs, resultsA, resultA, finish, old, olds, flat, movedH_same, Nat.min_self, loadA, readCells, cellsV_int, h1, h2, w.v8, l10, n0, S_fieldAddr, Tb.c0, Tb.e0, Tb.c1, Tb.e1, Tb.len, hp, hpE, c]; rfl, by simp [h1], by simp [h2], .inr ⟨rfl, by simp, by simp [lookE_setE]⟩⟩

set_option maxHeartbeats 2000000 in
theorem w_e (ht : TbOk t) (hn : n ≤ H.length) (hp : H[p]? = some (.cells t.cells)) (h1 : st.H = H) (h2 : st.low = n) (w : W sv tv a b k p st.vE) (l10 : lookupE st.vE 10 = .int .i64 m) :
    ∃ x st', execL tab F24Pe st = some (x, st') ∧ st'.H = H ∧ st'.low = n ∧ ((x = .normal ∧ okE t = true ∧ W sv tv a b k p st'.vE ∧ lookupE st'.vE 10 = .int .i64 m) ∨ (x = .ret ∧ okE t = false ∧ lookupE st'.vE 4 = .bool false)) := by
  have hpE : ∀ h : p < H.length, H[p]'h = .cells t.cells := fun h => by rw [List.getElem?_eq_getElem h] at hp; exact Option.some.inj hp
  have n0 : min n H.length = n := Nat.min_eq_left hn
  unfold okE
  by_cases b1 : t.hi < t.lo
  · have d1 : decide (t.lo ≤ t.hi) = false := by simp; omega
    refine ⟨.ret, _, by simp [F24Pe, callBody, zipE, execL_seq, execL_region, execL_cond, execL_skip, execL_ret, execL_exit, execL_block, execOps, wantedA, S_mv, S_pick, S_bin, S_un, S_call0, S_call1, S_extract, S_nilEq, S_load, S_alloc, Opd.ev, lookupE, lookE_setE, St.put, binA, unA, boolOf, freezeVs, freezeV, freeze1, isP, isPs, resultsA, resultA, finish, old, olds, flat, movedH_same, Nat.min_self, loadA, readCells, cellsV_int, h1, h2, w.v8, n0, S_fieldAddr, Tb.c3, Tb.e3, Tb.c4, Tb.e4, Tb.len, hp, hpE, b1]; rfl, by simp [h1], by simp [h2], .inr ⟨rfl, by simp [d1], by simp [lookE_setE]⟩⟩
  · have d1 : decide (t.lo ≤ t.hi) = true := by simp; omega
    by_cases b2 : t.lo < -9999
    · have d2 : decide (-9999 ≤ t.lo) = false := by simp; omega
      refine ⟨.ret, _, by simp [F24Pe, callBody, zipE, execL_seq, execL_region, execL_cond, execL_skip, execL_ret, execL_exit, execL_block, execOps, wantedA, S_mv, S_pick, S_bin, S_un, S_call0, S_call1, S_extract, S_nilEq, S_load, S_alloc, Opd.ev, lookupE, lookE_setE, St.put, binA, unA, boolOf, freezeVs, freezeV, freeze1, isP, isPs, resultsA, resultA, finish, old, olds, flat, movedH_same, Nat.min_self, loadA, readCells, cellsV_int, h1, h2, w.v8, n0, S_fieldAddr, Tb.c3, Tb.e3, Tb.c4, Tb.e4, Tb.len, hp, hpE, b1, b2]; rfl, by simp [h1], by simp [h2], .inr ⟨rfl, by simp [d2], by simp [lookE_setE]⟩⟩
    · have d2 : decide (-9999 ≤ t.lo) = true := by simp; omega
      by_cases b3 : 9999 < t.hi
      · have d3 : decide (t.hi ≤ 9999) = false := by simp; omega
        refine ⟨.ret, _, by simp [F24Pe, callBody, zipE, execL_seq, execL_region, execL_cond, execL_skip, execL_ret, execL_exit, execL_block, execOps, wantedA, S_mv, S_pick, S_bin, S_un, S_call0, S_call1, S_extract, S_nilEq, S_load, S_alloc, Opd.ev, lookupE, lookE_setE, St.put, binA, unA, boolOf, freezeVs, freezeV, freeze1, isP, isPs, resultsA, resultA, finish, old, olds, flat, movedH_same, Nat.min_self, loadA, readCells, cellsV_int, h1, h2, w.v8, n0, S_fieldAddr, Tb.c3, Tb.e3, Tb.c4, Tb.e4, Tb.len, hp, hpE, b1, b2, b3]; rfl, by simp [h1], by simp [h2], .inr ⟨rfl, by simp [d3], by simp [lookE_setE]⟩⟩
      · have d3 : decide (t.hi ≤ 9999) = true := by simp; omega
        refine ⟨.normal, _, by simp [F24Pe, callBody, zipE, execL_seq, execL_region, execL_cond, execL_skip, execL_ret, execL_exit, execL_block, execOps, wantedA, S_mv, S_pick, S_bin, S_un, S_call0, S_call1, S_extract, S_nilEq, S_load, S_alloc, Opd.ev, lookupE, lookE_setE, St.put, binA, unA, boolOf, freezeVs, freezeV, freeze1, isP, isPs, resultsA, resultA, finish, old, olds, flat, movedH_same, Nat.min_self, loadA, readCells, cellsV_int, h1, h2, w.v8, n0, S_fieldAddr, Tb.c3, Tb.e3, Tb.c4, Tb.e4, Tb.len, hp, hpE, b1, b2, b3]; rfl, by simp [h1], by simp [h2], .inl ⟨rfl, by simp [d1, d2, d3], ?_⟩⟩
        exact ⟨⟨by simp [lookE_setE, w.v0], by simp [lookE_setE, w.v1], by simp [lookE_setE, w.v5], by simp [lookE_setE, w.v6], by simp [lookE_setE, w.v7], by simp [lookE_setE, w.v8]⟩, by simp [lookE_setE, l10]⟩

set_option maxHeartbeats 2000000 in
theorem w_f (ht : TbOk t) (hn : n ≤ H.length) (hp : H[p]? = some (.cells t.cells)) (h1 : st.H = H) (h2 : st.low = n) (w : W sv tv a b k p st.vE) (l10 : lookupE st.vE 10 = .int .i64 m) :
    ∃ x st', execL tab F24Pf st = some (x, st') ∧ st'.H = H ∧ st'.low = n ∧ ((x = .normal ∧ okF t = true ∧ W sv tv a b k p st'.vE ∧ lookupE st'.vE 10 = .int .i64 m) ∨ (x = .ret ∧ okF t = false ∧ lookupE st'.vE 4 = .bool false)) := by
  have hpE : ∀ h : p < H.length, H[p]'h = .cells t.cells := fun h => by rw [List.getElem?_eq_getElem h] at hp; exact Option.some.inj hp
  have n0 : min n H.length = n := Nat.min_eq_left hn
  have e1 : (t.lo != 0) = !(t.lo == 0) := rfl
  have e2 : (t.hi != 1) = !(t.hi == 1) := rfl
  have key : ∀ (k0 k2 k3 l0 h1' : Bool), (t.kind == 0) = k0 → (t.kind == 2) = k2 → (t.kind == 3) = k3 → (t.lo == 0) = l0 → (t.hi == 1) = h1' → ∃ x st', execL tab F24Pf st = some (x, st') ∧ st'.H = H ∧ st'.low = n ∧ ((x = .normal ∧ okF t = true ∧ W sv tv a b k p st'.vE ∧ lookupE st'.vE 10 = .int .i64 m) ∨ (x = .ret ∧ okF t = false ∧ lookupE st'.vE 4 = .bool false)) := by
    intro k0 k2 k3 l0 h1' q1 q2 q3 q4 q5
    have hf : okF t = (!(k0 || (k2 || k3)) || (l0 && h1')) := by rw [okF, setK, q1, q2, q3, q4, q5]
    cases k0 <;> cases k2 <;> cases k3 <;> cases l0 <;> cases h1' <;>
    first
    | (refine ⟨.normal, _, by simp [F24Pf, callBody, zipE, execL_seq, execL_region, execL_cond, execL_skip, execL_ret, execL_exit, execL_block, execOps, wantedA, S_mv, S_pick, S_bin, S_un, S_call0, S_call1, S_extract, S_nilEq, S_load, S_alloc, Opd.ev, lookupE, lookE_setE, St.put, binA, unA, boolOf, freezeVs, freezeV, freeze1, isP, isPs, resultsA, resultA, finish, old, olds, flat, movedH_same, Nat.min_self, loadA, readCells, cellsV_int, h1, h2, w.v8, n0, S_fieldAddr, Tb.c1, Tb.e1, Tb.c3, Tb.e3, Tb.c4, Tb.e4, Tb.len, hp, hpE, e1, e2, q1, q2, q3, q4, q5]; rfl, by simp [h1], by simp [h2], .inl ⟨rfl, hf, ⟨by simp [lookE_setE, w.v0], by simp [lookE_setE, w.v1], by simp [lookE_setE, w.v5], by simp [lookE_setE, w.v6], by simp [lookE_setE, w.v7], by simp [lookE_setE, w.v8]⟩, by simp [lookE_setE, l10]⟩⟩; done)
    | (refine ⟨.ret, _, by simp [F24Pf, callBody, zipE, execL_seq, execL_region, execL_cond, execL_skip, execL_ret, execL_exit, execL_block, execOps, wantedA, S_mv, S_pick, S_bin, S_un, S_call0, S_call1, S_extract, S_nilEq, S_load, S_alloc, Opd.ev, lookupE, lookE_setE, St.put, binA, unA, boolOf, freezeVs, freezeV, freeze1, isP, isPs, resultsA, resultA, finish, old, olds, flat, movedH_same, Nat.min_self, loadA, readCells, cellsV_int, h1, h2, w.v8, n0, S_fieldAddr, Tb.c1, Tb.e1, Tb.c3, Tb.e3, Tb.c4, Tb.e4, Tb.len, hp, hpE, e1, e2, q1, q2, q3, q4, q5]; rfl, by simp [h1], by simp [h2], .inr ⟨rfl, hf, by simp [lookE_setE]⟩⟩; done)
  exact key _ _ _ _ _ rfl rfl rfl rfl rfl
end
end Go.Abs.T09
/- The reference's Valid answers as cells.Valid does. -/
namespace Go.Abs.T09
open Go Go.Abs

section
variable {sizes : List Int} {sv tv : V} {ts : List Tb} {n k p : Nat} {t : Tb} {a b m : Int} {H : Heap} {st : St}

theorem w_g (ht : TbOk t) (hn : n ≤ H.length) (hp : H[p]? = some (.cells t.cells)) (h1 : st.H = H) (h2 : st.low = n) (w : W sv tv a b k p st.vE) (l10 : lookupE st.vE 10 = .int .i64 m) :
    ∃ st', execL tab F24Pg st = some (.normal, st') ∧ st'.H = H ∧ st'.low = n ∧ W sv tv a b k p st'.vE ∧ lookupE st'.vE 10 = .int .i64 m ∧ lookupE st'.vE 115 = .bool (strictB t) := by
  have hpE : ∀ h : p < H.length, H[p]'h = .cells t.cells := fun h => by rw [List.getElem?_eq_getElem h] at hp; exact Option.some.inj hp
  have n0 : min n H.length = n := Nat.min_eq_left hn
  have c := strict2_s t.kind H
  unfold Ans at c
  refine ⟨_, by simp [F24Pg, callBody, zipE, execL_seq, execL_region, execL_cond, execL_skip, execL_ret, execL_exit, execL_block, execOps, wantedA, S_mv, S_pick, S_bin, S_un, S_call0, S_call1, S_extract, S_nilEq, S_load, S_alloc, Opd.ev, lookupE, lookE_setE, St.put, binA, unA, boolOf, freezeVs, freezeV, freeze1, isP, isPs, resultsA, resultA, finish, old, olds, flat, movedH_same, Nat.min_self, loadA, readCells, cellsV_int, h1, h2, w.v8, n0, S_fieldAddr, Tb.c1, Tb.e1, Tb.len, hp, hpE, c]; rfl, ?_⟩
  exact ⟨by simp [h1], by simp [h2], ⟨by simp [lookE_setE, w.v0], by simp [lookE_setE, w.v1], by simp [lookE_setE, w.v5], by simp [lookE_setE, w.v6], by simp [lookE_setE, w.v7], by simp [lookE_setE, w.v8]⟩, by simp [lookE_setE, l10], by simp [lookE_setE, strictB]⟩

set_option maxHeartbeats 1000000 in
theorem w_h (s : Bool) (hs : strictB t = s) (ha : 0 ≤ a ∧ a ≤ 1000000) (hb : 0 ≤ b ∧ b ≤ 1000000) (hm : 0 ≤ m ∧ m ≤ 1000000) (hn : n ≤ H.length) (hp : H[p]? = some (.cells t.cells)) (h1 : st.H = H) (h2 : st.low = n) (w : W sv tv a b k p st.vE) (l10 : lookupE st.vE 10 = .int .i64 m) (l115 : lookupE st.vE 115 = .bool s) :
    ∃ x st', execL tab F24Ph st = some (x, st') ∧ st'.H = H ∧ st'.low = n ∧ ((x = .normal ∧ (t.first == if s then a else b) = true ∧ W sv tv (if s then a + m else a) (if s then b else b + m) k p st'.vE) ∨ (x = .ret ∧ (t.first == if s then a else b) = false ∧ lookupE st'.vE 4 = .bool false)) := by
  have hpE : ∀ h : p < H.length, H[p]'h = .cells t.cells := fun h => by rw [List.getElem?_eq_getElem h] at hp; exact Option.some.inj hp
  have n0 : min n H.length = n := Nat.min_eq_left hn
  have wa : IntKind.i64.wrap (a + m) = a + m := by rw [wrap_small] <;> omega
  have wb : IntKind.i64.wrap (b + m) = b + m := by rw [wrap_small] <;> omega
  have e (c : Int) : (t.first != c) = !(t.first == c) := rfl
  cases s with
  | true =>
    simp only [if_true]
    cases hf : (t.first == a) with
    | true =>
      refine ⟨.normal, _, by simp [F24Ph, callBody, zipE, execL_seq, execL_region, execL_cond, execL_skip, execL_ret, execL_exit, execL_block, execOps, wantedA, S_mv, S_pick, S_bin, S_un, S_call0, S_call1, S_extract, S_nilEq, S_load, S_alloc, Opd.ev, lookupE, lookE_setE, St.put, binA, unA, boolOf, freezeVs, freezeV, freeze1, isP, isPs, resultsA, resultA, finish, old, olds, flat, movedH_same, Nat.min_self, loadA, readCells, cellsV_int, h1, h2, w.v5, w.v8, l10, l115, n0, S_fieldAddr, Tb.c5, Tb.e5, Tb.len, hp, hpE, e, hf, wa]; rfl, by simp [h1], by simp [h2], .inl ⟨rfl, rfl, ?_⟩⟩
      exact ⟨by simp [lookE_setE, w.v0], by simp [lookE_setE, w.v1], by simp [lookE_setE], by simp [lookE_setE, w.v6], by simp [lookE_setE, w.v7], by simp [lookE_setE, w.v8]⟩
    | false =>
      refine ⟨.ret, _, by simp [F24Ph, callBody, zipE, execL_seq, execL_region, execL_cond, execL_skip, execL_ret, execL_exit, execL_block, execOps, wantedA, S_mv, S_pick, S_bin, S_un, S_call0, S_call1, S_extract, S_nilEq, S_load, S_alloc, Opd.ev, lookupE, lookE_setE, St.put, binA, unA, boolOf, freezeVs, freezeV, freeze1, isP, isPs, resultsA, resultA, finish, old, olds, flat, movedH_same, Nat.min_self, loadA, readCells, cellsV_int, h1, h2, w.v5, w.v8, l10, l115, n0, S_fieldAddr, Tb.c5, Tb.e5, Tb.len, hp, hpE, e, hf, wa]; rfl, by simp [h1], by simp [h2], .inr ⟨rfl, rfl, by simp [lookE_setE]⟩⟩
  | false =>
    simp only [if_neg (show ¬ (false = true) by decide)]
    cases hf : (t.first == b) with
    | true =>
      refine ⟨.normal, _, by simp [F24Ph, callBody, zipE, execL_seq, execL_region, execL_cond, execL_skip, execL_ret, execL_exit, execL_block, execOps, wantedA, S_mv, S_pick, S_bin, S_un, S_call0, S_call1, S_extract, S_nilEq, S_load, S_alloc, Opd.ev, lookupE, lookE_setE, St.put, binA, unA, boolOf, freezeVs, freezeV, freeze1, isP, isPs, resultsA, resultA, finish, old, olds, flat, movedH_same, Nat.min_self, loadA, readCells, cellsV_int, h1, h2, w.v6, w.v8, l10, l115, n0, S_fieldAddr, Tb.c5, Tb.e5, Tb.len, hp, hpE, e, hf, wb]; rfl, by simp [h1], by simp [h2], .inl ⟨rfl, rfl, ?_⟩⟩
      exact ⟨by simp [lookE_setE, w.v0], by simp [lookE_setE, w.v1], by simp [lookE_setE, w.v5], by simp [lookE_setE], by simp [lookE_setE, w.v7], by simp [lookE_setE, w.v8]⟩
    | false =>
      refine ⟨.ret, _, by simp [F24Ph, callBody, zipE, execL_seq, execL_region, execL_cond, execL_skip, execL_ret, execL_exit, execL_block, execOps, wantedA, S_mv, S_pick, S_bin, S_un, S_call0, S_call1, S_extract, S_nilEq, S_load, S_alloc, Opd.ev, lookupE, lookE_setE, St.put, binA, unA, boolOf, freezeVs, freezeV, freeze1, isP, isPs, resultsA, resultA, finish, old, olds, flat, movedH_same, Nat.min_self, loadA, readCells, cellsV_int, h1, h2, w.v6, w.v8, l10, l115, n0, S_fieldAddr, Tb.c5, Tb.e5, Tb.len, hp, hpE, e, hf, wb]; rfl, by simp [h1], by simp [h2], .inr ⟨rfl, rfl, by simp [lookE_setE]⟩⟩
end

/-! ### the plain law -/
theorem numR_zero {sizes cols : List Int} (hok : sizes.all okSize = true) : (numR sizes cols == 0) = !goodCols sizes cols := by
  unfold numR
  cases hg : goodCols sizes cols with
  | false => simp
  | true =>
    have := cols_bound hok hg cols.length (Nat.le_refl _)
    rw [List.take_of_length_le (by simp [dimsOf])] at this
    rw [hok]
    simp
    omega
theorem numR_wid {sizes : List Int} {t : Tb} (hok : sizes.all okSize = true) (hg : goodCols sizes t.cl = true) : numR sizes t.cl = wid sizes t := by simp [numR, hg, hok, wid]
theorem numR_bound {sizes cols : List Int} : 0 ≤ numR sizes cols ∧ numR sizes cols ≤ 216 := by
  unfold numR
  split
  · rename_i h
    simp only [Bool.and_eq_true] at h
    have := cols_bound h.2 h.1 cols.length (Nat.le_refl _)
    rw [List.take_of_length_le (by simp [dimsOf])] at this
    omega
  · omega

theorem range_law (t : Tb) (h0 : 0 ≤ t.kind) (h5 : t.kind ≤ 5) : (okE t && okF t) = rangedB t := by
  have e : t.kind = 0 ∨ t.kind = 1 ∨ t.kind = 2 ∨ t.kind = 3 ∨ t.kind = 4 ∨ t.kind = 5 := by omega
  rw [Bool.eq_iff_iff]
  rcases e with e | e | e | e | e | e <;> simp [okE, okF, setK, rangedB, e] <;> omega

theorem tok_law {sizes : List Int} {ns : List (List UInt8)} {t : Tb} (hok : sizes.all okSize = true) : tOk sizes ns t = (!ns.contains t.name && (okD t (numR sizes t.cl) && (okE t && okF t))) := by
  unfold tOk okD
  rw [numR_zero hok, Bool.not_not]
  by_cases hk : 0 ≤ t.kind ∧ t.kind ≤ 5
  · rw [range_law t hk.1 hk.2]
    simp only [List.all_cons, List.all_nil, id, hk.1, hk.2, decide_true, Bool.true_and, Bool.and_true]
    cases nameOk t.name <;> cases ns.contains t.name <;> simp
  · by_cases h0 : 0 ≤ t.kind
    · have h5 : ¬ t.kind ≤ 5 := fun h => hk ⟨h0, h⟩
      simp [h5]
    · simp [h0]

/-! ### the loop -/
set_option maxHeartbeats 1000000 in
theorem valid2_loop {sizes : List Int} {sv tv : V} {ts : List Tb} {n : Nat} (hs : VI sv sizes) (ht : VT tv ts) (hok : sizes.all okSize = true) (h12 : ts.length ≤ 12) (hnm : ∀ t ∈ ts, t.name.length ≤ 4096) {st : St} (hn : n ≤ st.H.length) (hlow : st.low = n)
    (l0 : lookupE st.vE 0 = sv) (l1 : lookupE st.vE 1 = tv) (l5 : lookupE st.vE 5 = .int .i64 0) (l6 : lookupE st.vE 6 = .int .i64 0) (l7 : lookupE st.vE 7 = .int .i64 (0 : Nat)) :
    ∃ x st', execL tab (.loop F24L1) st = some (x, st') ∧ st'.low = n ∧ n ≤ st'.H.length ∧ ((x = .exit 0 ∧ fitsAll sizes ts = true ∧ lookupE st'.vE 5 = .int .i64 (sumB true sizes ts) ∧ lookupE st'.vE 6 = .int .i64 (sumB false sizes ts)) ∨ (x = .ret ∧ fitsAll sizes ts = false ∧ lookupE st'.vE 4 = .bool false)) := by
  have key := for_loop (tab := tab) (b := 27) (i := 7) (xs := 1) (t1 := 24) (t2 := 25) (t3 := 26) (t4 := 28) (t5 := 29) (blk := 1) (ex := 0) (es := 6) (body := F24LB)
    (I := fun k st => n ≤ st.H.length ∧ st.low = n ∧ lookupE st.vE 0 = sv ∧ lookupE st.vE 1 = tv ∧ lookupE st.vE 5 = .int .i64 (sumB true sizes (ts.take k)) ∧ lookupE st.vE 6 = .int .i64 (sumB false sizes (ts.take k)) ∧
      lookupE st.vE 7 = .int .i64 k ∧ (∀ j t, j < k → ts[j]? = some t → tFits sizes (ts.take j) t = true) ∧ (∀ b, 0 ≤ sumB b sizes (ts.take k) ∧ sumB b sizes (ts.take k) ≤ 216 * (k : Int)))
    (Q := fun x st => st.low = n ∧ n ≤ st.H.length ∧ ((x = .exit 0 ∧ fitsAll sizes ts = true ∧ lookupE st.vE 5 = .int .i64 (sumB true sizes ts) ∧ lookupE st.vE 6 = .int .i64 (sumB false sizes ts)) ∨ (x = .ret ∧ fitsAll sizes ts = false ∧ lookupE st.vE 4 = .bool false)))
    (N := ts.length) ht.lt (by decide) (by decide) (by decide)
    (fun k st h => ⟨h.2.2.2.2.2.2.1, by rw [h.2.2.2.1]; exact ht.sl, by rw [h.2.2.2.1]; exact ht.len, by rw [h.2.1]; exact h.1⟩)
    (by
      rintro k st hk ⟨q1, q2, q3, q4, q5, q6, q7, q8, q9⟩
      obtain ⟨t, het⟩ : ∃ t, ts[k]? = some t := ⟨_, List.getElem?_eq_getElem hk⟩
      have hmem := List.mem_of_getElem? het
      have hto := ht.ok t hmem
      have hg := ht.get het
      obtain ⟨s1, a1, a2, a3, a4⟩ := w_a (sv := sv) (a := sumB true sizes (ts.take k)) (b := sumB false sizes (ts.take k)) (n := n) (H := st.H) (k := k) (st := { st with tE := [], vE := setE st.vE 27 (.bool true) }) ht.sl hg hto rfl q2 q1 (by simp [lookE_setE, q3]) (by simp [lookE_setE, q4]) (by simp [lookE_setE, q5]) (by simp [lookE_setE, q6]) (by simp [lookE_setE, q7])
      have hp1 : s1.H[st.H.length]? = some (.cells t.cells) := by rw [a2]; simp
      have hn1 : n ≤ s1.H.length := by rw [a2]; simp; omega
      have notfit : tFits sizes (ts.take k) t = false → fitsAll sizes ts = false := fun h => by
        rw [Bool.eq_false_iff]; intro h2
        rw [fitsAll_iff.1 h2 k t het] at h; cases h
      obtain ⟨xb, s2, b1, b2, b3, b4⟩ := w_b ht (Nat.le_of_lt hk) hto hn1 hp1 rfl a3 a4
      rcases b4 with ⟨rfl, b4, b5⟩ | ⟨rfl, b4, b5⟩
      case inr =>
        refine ⟨.ret, s2, by rw [F24LB_parts, execL_seq, a1]; simp only []; rw [execL_seq, b1], ?_⟩
        simp only [reduceCtorEq, or_self, if_false]
        refine ⟨b3, by rw [b2]; exact hn1, .inr ⟨trivial, notfit ?_, b5⟩⟩
        rw [tFits, tok_law hok, b4]; rfl
      obtain ⟨s3, c1, c2, c3, c4, c5⟩ := w_c hs hto hn1 hp1 b2 b3 b5
      obtain ⟨xd, s4, d1, d2, d3, d4⟩ := w_d hto (hnm t hmem) hn1 hp1 c2 c3 c4 c5
      rcases d4 with ⟨rfl, d4, d5, d6⟩ | ⟨rfl, d4, d5⟩
      case inr =>
        refine ⟨.ret, s4, by rw [F24LB_parts, execL_seq, a1]; simp only []; rw [execL_seq, b1]; simp only []; rw [execL_seq, c1]; simp only []; rw [execL_seq, d1], ?_⟩
        simp only [reduceCtorEq, or_self, if_false]
        refine ⟨d3, by rw [d2]; exact hn1, .inr ⟨trivial, notfit ?_, d5⟩⟩
        rw [tFits, tok_law hok, d4]; simp
      obtain ⟨xe, s5, e1, e2, e3, e4⟩ := w_e hto hn1 hp1 d2 d3 d5 d6
      rcases e4 with ⟨rfl, e4, e5, e6⟩ | ⟨rfl, e4, e5⟩
      case inr =>
        refine ⟨.ret, s5, by rw [F24LB_parts, execL_seq, a1]; simp only []; rw [execL_seq, b1]; simp only []; rw [execL_seq, c1]; simp only []; rw [execL_seq, d1]; simp only []; rw [execL_seq, e1], ?_⟩
        simp only [reduceCtorEq, or_self, if_false]
        refine ⟨e3, by rw [e2]; exact hn1, .inr ⟨trivial, notfit ?_, e5⟩⟩
        rw [tFits, tok_law hok, e4]; simp
      obtain ⟨xf, s6, f1, f2, f3, f4⟩ := w_f hto hn1 hp1 e2 e3 e5 e6
      rcases f4 with ⟨rfl, f4, f5, f6⟩ | ⟨rfl, f4, f5⟩
      case inr =>
        refine ⟨.ret, s6, by rw [F24LB_parts, execL_seq, a1]; simp only []; rw [execL_seq, b1]; simp only []; rw [execL_seq, c1]; simp only []; rw [execL_seq, d1]; simp only []; rw [execL_seq, e1]; simp only []; rw [execL_seq, f1], ?_⟩
        simp only [reduceCtorEq, or_self, if_false]
        refine ⟨f3, by rw [f2]; exact hn1, .inr ⟨trivial, notfit ?_, f5⟩⟩
        rw [tFits, tok_law hok, f4]; simp
      have htok : tOk sizes ((ts.take k).map (·.name)) t = true := by rw [tok_law hok, b4, d4, e4, f4]; rfl
      have hgc : goodCols sizes t.cl = true := by
        simp only [tOk, List.all_cons, List.all_nil, id, Bool.and_eq_true] at htok
        exact htok.2.2.2.1
      have hnw := numR_wid hok hgc
      have hw := wid_bound hok hgc
      obtain ⟨s7, g1, g2, g3, g4, g5, g6⟩ := w_g hto hn1 hp1 f2 f3 f5 f6
      have ha := q9 true
      have hb := q9 false
      obtain ⟨xh, s8, i1, i2, i3, i4⟩ := w_h (strictB t) rfl (by omega) (by omega) (by rw [hnw]; omega) hn1 hp1 g2 g3 g4 g5 g6
      have hfirst : firstOk sizes (ts.take k) t = (t.first == if strictB t then sumB true sizes (ts.take k) else sumB false sizes (ts.take k)) := by
        unfold firstOk; cases strictB t <;> rfl
      have chain : execL tab F24LB { st with tE := [], vE := setE st.vE 27 (.bool true) } = some (xh, s8) := by
        rw [F24LB_parts, execL_seq, a1]; simp only []; rw [execL_seq, b1]; simp only []; rw [execL_seq, c1]; simp only []; rw [execL_seq, d1]; simp only []; rw [execL_seq, e1]; simp only []; rw [execL_seq, f1]; simp only []; rw [execL_seq, g1]; simp only []; exact i1
      rcases i4 with ⟨rfl, i4, i5⟩ | ⟨rfl, i4, i5⟩
      case inr =>
        refine ⟨.ret, s8, chain, ?_⟩
        simp only [reduceCtorEq, or_self, if_false]
        refine ⟨i3, by rw [i2]; exact hn1, .inr ⟨trivial, notfit ?_, i5⟩⟩
        rw [tFits, hfirst, i4, Bool.and_false]
      have hfit : tFits sizes (ts.take k) t = true := by rw [tFits, hfirst, i4, htok]; rfl
      refine ⟨.normal, s8, chain, ?_⟩
      simp only [true_or, if_true]
      refine ⟨i5.v7, by rw [i3, i2]; exact hn1, by show n ≤ s8.H.length; rw [i2]; exact hn1, i3, by simp [lookE_setE, i5.v0], by simp [lookE_setE, i5.v1], ?_, ?_, by simp [lookE_setE], ?_, ?_⟩
      · simp only [lookE_setE]; rw [sumB_succ het]
        simp only [show ¬ (5 = 7) by decide, if_false]
        rw [i5.v5, hnw]
        cases strictB t <;> simp
      · simp only [lookE_setE]; rw [sumB_succ het]
        simp only [show ¬ (6 = 7) by decide, if_false]
        rw [i5.v6, hnw]
        cases strictB t <;> simp
      · intro j t' hj e
        rcases Nat.lt_or_ge j k with h | h
        · exact q8 j t' h e
        · have : j = k := by omega
          subst this
          rw [het] at e; cases e; exact hfit
      · intro b
        have := q9 b
        rw [sumB_succ het]
        split <;> omega)
    (by
      rintro st ⟨q1, q2, q3, q4, q5, q6, q7, q8, q9⟩
      rw [List.take_length] at q5 q6
      refine ⟨q2, q1, .inl ⟨rfl, ?_, by simp [lookE_setE, q5], by simp [lookE_setE, q6]⟩⟩
      rw [fitsAll_iff]
      intro k t e
      have hk : k < ts.length := by
        rcases Nat.lt_or_ge k ts.length with h1 | h1
        · exact h1
        · rw [List.getElem?_eq_none h1] at e; cases e
      exact q8 k t hk e)
  have r := key ts.length 0 st (by omega) ⟨hn, hlow, l0, l1, by simpa [sumB] using l5, by simpa [sumB] using l6, l7, fun j t hj => absurd hj (by omega), fun b => by simp [sumB]⟩
  rw [← F24L1_for] at r
  exact r

set_option maxHeartbeats 1000000 in
theorem valid2_s {sizes : List Int} {sv tv : V} {ts : List Tb} (hs : VI sv sizes) (ht : VT tv ts) (hnm : ∀ t ∈ ts, t.name.length ≤ 4096) (H : Heap) : Ans (.fn 24 [] []) [sv, tv] H (.bool (validB sizes ts)) := by
  have hso := sound_s hs H
  unfold Ans at *
  rw [callL_fn, show tab 24 = some (.code F24) from rfl]
  unfold validB
  by_cases h4 : sizes.length ≤ 4
  · have h4' : ¬ (4 : Int) < (sizes.length : Int) := by omega
    cases hok : sizes.all okSize with
    | false =>
      rw [hok] at hso
      simp [F24, callBody, zipE, execL_seq, execL_region, execL_cond, execL_skip, execL_ret, execL_exit, execL_block, execOps, wantedA, S_mv, S_pick, S_bin, S_un, S_call0, S_call1, S_extract, S_nilEq, S_load, S_alloc, S_box, Opd.ev, lookupE, setE, St.put, binA, unA, boolOf, freezeVs, freezeV, freeze1, isP, isPs, resultsA, resultA, finish, old, olds, flat, movedH_same, Nat.min_self, loadA, readCells, cellsV, S_len 1, S_len 6, hs.sl, hs.len, ht.sl, ht.len, hs.isP, h4', hso]
    | true =>
      rw [hok] at hso
      by_cases h12 : ts.length ≤ 12
      · have h12' : ¬ (12 : Int) < (ts.length : Int) := by omega
        obtain ⟨x, st', r1, r2, r3, r4⟩ := valid2_loop hs ht hok h12 hnm (n := H.length)
          (st := { tE := [], vE := [(0, sv), (1, tv), (4, .bool false), (23, .bool false), (5, .int .i64 0), (6, .int .i64 0), (7, .int .i64 0)], H := H, low := H.length }) (Nat.le_refl _) rfl rfl rfl rfl rfl rfl
        have hmin : min H.length st'.H.length = H.length := Nat.min_eq_left r3
        rcases r4 with ⟨rfl, r4, r5, r6⟩ | ⟨rfl, r4, r5⟩
        · by_cases hS : sumB true sizes ts ≤ 128
          · simp [F24, callBody, zipE, execL_seq, execL_region, execL_cond, execL_skip, execL_ret, execL_exit, execL_block, execOps, wantedA, S_mv, S_pick, S_bin, S_un, S_call0, S_call1, S_extract, S_nilEq, S_load, S_alloc, S_box, Opd.ev, lookupE, setE, St.put, binA, unA, boolOf, freezeVs, freezeV, freeze1, isP, isPs, resultsA, resultA, finish, old, olds, flat, movedH_same, Nat.min_self, loadA, readCells, cellsV, S_len 1, S_len 6, hs.sl, hs.len, ht.sl, ht.len, hs.isP, h4', h12', hso, r1, r2, r4, r5, r6, hS, hmin, lookE_setE, h4, h12]
          · simp [F24, callBody, zipE, execL_seq, execL_region, execL_cond, execL_skip, execL_ret, execL_exit, execL_block, execOps, wantedA, S_mv, S_pick, S_bin, S_un, S_call0, S_call1, S_extract, S_nilEq, S_load, S_alloc, S_box, Opd.ev, lookupE, setE, St.put, binA, unA, boolOf, freezeVs, freezeV, freeze1, isP, isPs, resultsA, resultA, finish, old, olds, flat, movedH_same, Nat.min_self, loadA, readCells, cellsV, S_len 1, S_len 6, hs.sl, hs.len, ht.sl, ht.len, hs.isP, h4', h12', hso, r1, r2, r4, r5, r6, hS, hmin, lookE_setE, h4, h12]
        · simp [F24, callBody, zipE, execL_seq, execL_region, execL_cond, execL_skip, execL_ret, execL_exit, execL_block, execOps, wantedA, S_mv, S_pick, S_bin, S_un, S_call0, S_call1, S_extract, S_nilEq, S_load, S_alloc, S_box, Opd.ev, lookupE, setE, St.put, binA, unA, boolOf, freezeVs, freezeV, freeze1, isP, isPs, resultsA, resultA, finish, old, olds, flat, movedH_same, Nat.min_self, loadA, readCells, cellsV, S_len 1, S_len 6, hs.sl, hs.len, ht.sl, ht.len, hs.isP, h4', h12', hso, r1, r2, r4, r5, hmin, lookE_setE, h4, h12]
      · have h12' : (12 : Int) < (ts.length : Int) := by omega
        simp [F24, callBody, zipE, execL_seq, execL_region, execL_cond, execL_skip, execL_ret, execL_exit, execL_block, execOps, wantedA, S_mv, S_pick, S_bin, S_un, S_call0, S_call1, S_extract, S_nilEq, S_load, S_alloc, S_box, Opd.ev, lookupE, setE, St.put, binA, unA, boolOf, freezeVs, freezeV, freeze1, isP, isPs, resultsA, resultA, finish, old, olds, flat, movedH_same, Nat.min_self, loadA, readCells, cellsV, S_len 1, S_len 6, hs.sl, hs.len, ht.sl, ht.len, hs.isP, h4', h12', hso, h12]
  · have h4' : (4 : Int) < (sizes.length : Int) := by omega
    simp [F24, callBody, zipE, execL_seq, execL_region, execL_cond, execL_skip, execL_ret, execL_exit, execL_block, execOps, wantedA, S_mv, S_pick, S_bin, S_un, S_call0, S_call1, S_extract, S_nilEq, S_load, S_alloc, S_box, Opd.ev, lookupE, setE, St.put, binA, unA, boolOf, freezeVs, freezeV, freeze1, isP, isPs, resultsA, resultA, finish, old, olds, flat, movedH_same, Nat.min_self, loadA, readCells, cellsV, S_len 1, S_len 6, hs.sl, hs.len, ht.sl, ht.len, hs.isP, h4', h4]
end Go.Abs.T09
/- cells.Tuple. -/
namespace Go.Abs.T09
open Go Go.Abs

/-! ### digits -/
def dg (ds : List Int) : Nat → Int → List Int → List Int
  | 0, _, t => t
  | i + 1, k, t => dg ds i (k / (ds[i]?).getD 0) (t.set i (k % (ds[i]?).getD 0))
def tupleOf (ds : List Int) (k : Int) : List Int := dg ds ds.length k (List.replicate ds.length 0)

theorem dg_length (ds : List Int) : ∀ (i : Nat) (k : Int) (t : List Int), (dg ds i k t).length = t.length
  | 0, _, t => rfl
  | i + 1, k, t => by simp only [dg]; rw [dg_length]; simp
theorem dg_above (ds : List Int) : ∀ (i : Nat) (k : Int) (t : List Int) (m : Nat), i ≤ m → (dg ds i k t)[m]? = t[m]?
  | 0, _, _, _, _ => rfl
  | i + 1, k, t, m, h => by simp only [dg]; rw [dg_above ds i _ _ m (by omega), List.getElem?_set_ne (by omega)]
theorem dg_val {ds : List Int} (hd : ∀ d ∈ ds, 1 ≤ d) : ∀ (i : Nat) (k : Int) (t : List Int), i ≤ ds.length → i ≤ t.length → 0 ≤ k → k < prodP ds i → valP ds (dg ds i k t) i = k ∧ ∀ j x d, j < i → (dg ds i k t)[j]? = some x → ds[j]? = some d → 0 ≤ x ∧ x < d
  | 0, k, t, _, _, h0, h1 => by simp only [prodP] at h1; simp only [valP]; exact ⟨by omega, fun j x d hj => absurd hj (by omega)⟩
  | i + 1, k, t, hi, ht, h0, h1 => by
    obtain ⟨d, hdi⟩ : ∃ d, ds[i]? = some d := ⟨_, List.getElem?_eq_getElem (by omega)⟩
    have hd1 := hd d (List.mem_of_getElem? hdi)
    have hlt : k / d < prodP ds i := by
      simp only [prodP, hdi, Option.getD_some] at h1
      exact Int.ediv_lt_of_lt_mul (by omega) h1
    have ih := dg_val hd i (k / d) (t.set i (k % d)) (by omega) (by simp; omega) (Int.ediv_nonneg h0 (by omega)) hlt
    have hget : (dg ds (i + 1) k t)[i]? = some (k % d) := by
      simp only [dg, hdi, Option.getD_some]
      rw [dg_above ds i _ _ i (Nat.le_refl _), List.getElem?_set_self (by omega)]
    have hdg : dg ds (i + 1) k t = dg ds i (k / d) (t.set i (k % d)) := by simp only [dg, hdi, Option.getD_some]
    refine ⟨?_, fun j x e hj hx he => ?_⟩
    · simp only [valP, hget, hdi, Option.getD_some]
      rw [hdg, ih.1, Int.mul_comm]
      exact Int.mul_ediv_add_emod k d
    · rcases Nat.lt_or_ge j i with h | h
      · rw [hdg] at hx; exact ih.2 j x e h hx he
      · have : j = i := by omega
        subst this
        rw [hget] at hx; rw [hdi] at he; cases hx; cases he
        exact ⟨Int.emod_nonneg _ (by omega), Int.emod_lt_of_pos _ (by omega)⟩

theorem tupleOf_spec {ds : List Int} (hd : ∀ d ∈ ds, 1 ≤ d) {k : Int} (h0 : 0 ≤ k) (h1 : k < prodI ds) : InR ds (tupleOf ds k) ∧ valP ds (tupleOf ds k) (tupleOf ds k).length = k ∧ (tupleOf ds k).length = ds.length := by
  have hp : prodP ds ds.length = prodI ds := by rw [prodP_take ds _ (Nat.le_refl _), List.take_length]
  have hl : (tupleOf ds k).length = ds.length := by unfold tupleOf; rw [dg_length]; simp
  have h := dg_val hd ds.length k (List.replicate ds.length 0) (Nat.le_refl _) (by simp) h0 (by omega)
  refine ⟨⟨hl, fun j x d hx he => ?_⟩, by rw [hl]; exact h.1, hl⟩
  have hj : j < ds.length := by
    rcases Nat.lt_or_ge j ds.length with h | h
    · exact h
    · rw [List.getElem?_eq_none h] at he; cases he
  exact h.2 j x d hj hx he

def tupV (l : List Int) : V := if l = [] then .emp else .list 1 (l.map (.int .i64))
theorem tupV_VI {l : List Int} (h : l.length < 4611686018427387904) : VI (tupV l) l := by
  unfold tupV
  split
  · rename_i e; subst e; exact ⟨rfl, rfl, h⟩
  · exact ⟨rfl, rfl, h⟩

def hit (sizes : List Int) (strict : Bool) (cell : Int) (t : Tb) : Bool := strictB t == strict && decide (0 ≤ cell - t.first) && decide (cell - t.first < wid sizes t)

/-- What cells.Tuple returns. -/
def tupleR (sizes : List Int) (ts : List Tb) (strict : Bool) (cell : Int) : V :=
  if (!validB sizes ts || decide (cell < 0)) = true then .tup [.int .i64 0, .nil0, .bool false] else
  match ts.findIdx? (hit sizes strict cell) with
  | none => .tup [.int .i64 0, .nil0, .bool false]
  | some i => match ts[i]? with
    | some t => .tup [.int .i64 i, tupV (tupleOf (dimsOf sizes t.cl) (cell - t.first)), .bool true]
    | none => .undef

def F12Pa : ACode := .region [⟨some (29, false), .mv (.var 27), none⟩, ⟨some (30, false), .indexAddr 6 (.var 25) (.var 27), none⟩, ⟨some (31, false), .load (some 6) (.tmp 30), none⟩, ⟨some (12, true), .alloc [.str [], .int .i64 0, .nil0, .int .i64 0, .int .i64 0, .int .i64 0], none⟩, ⟨some (11, true), .mv (.tmp 29), none⟩, ⟨none, .store 6 (.var 12) (.tmp 31), none⟩] none
def F12Pb : ACode := .region [⟨some (32, false), .mv (.var 3), none⟩, ⟨some (33, false), .fieldAddr 5 (.var 12), none⟩, ⟨some (34, false), .load none (.tmp 33), none⟩, ⟨some (35, false), .bin .sub (.tmp 32) (.tmp 34), none⟩, ⟨some (13, true), .mv (.tmp 35), none⟩] none
def F12Pc : ACode := .seq (.region [⟨some (36, false), .load (some 6) (.var 12), none⟩, ⟨some (37, false), .call false (.func 33) [(.tmp 36)], none⟩, ⟨some (38, false), .mv (.var 2), none⟩, ⟨some (39, false), .nilEq 4 true (.tmp 37) (.tmp 38), none⟩, ⟨some (40, false), .mv (.tmp 39), none⟩, ⟨some (41, false), .mv (.var 13), some ((.tmp 40), false)⟩, ⟨some (42, false), .bin .lss (.tmp 41) (.const (.int .i64 0)), some ((.tmp 40), false)⟩, ⟨some (43, false), .pick (.tmp 40) (.const (.bool true)) (.tmp 42), none⟩, ⟨some (44, false), .mv (.tmp 43), none⟩, ⟨some (45, false), .mv (.var 13), some ((.tmp 44), false)⟩, ⟨some (46, false), .mv (.var 0), some ((.tmp 44), false)⟩, ⟨some (47, false), .fieldAddr 2 (.var 12), some ((.tmp 44), false)⟩, ⟨some (48, false), .load none (.tmp 47), some ((.tmp 44), false)⟩, ⟨some (49, false), .call false (.func 34) [(.tmp 46), (.tmp 48)], some ((.tmp 44), false)⟩, ⟨some (50, false), .bin .geq (.tmp 45) (.tmp 49), some ((.tmp 44), false)⟩, ⟨some (51, true), .pick (.tmp 44) (.const (.bool true)) (.tmp 50), none⟩] none) (.cond (.var 51) (.exit 1) (.skip))
def F12Pd : ACode := .region [⟨some (52, false), .fieldAddr 2 (.var 12), none⟩, ⟨some (53, false), .load none (.tmp 52), none⟩, ⟨some (54, false), .len 1 (.tmp 53), none⟩, ⟨some (55, false), .mkSlice 1 [.int .i64 0] 8 (.tmp 54) (.tmp 54), none⟩, ⟨some (14, true), .mv (.tmp 55), none⟩] none
def F12Pe : ACode := .seq (.region [⟨some (56, false), .mv (.var 14), none⟩, ⟨some (57, false), .len 1 (.tmp 56), none⟩, ⟨some (58, false), .bin .sub (.tmp 57) (.const (.int .i64 1)), none⟩, ⟨some (15, true), .mv (.tmp 58), none⟩] none) (.block 2 (.loop F12L0))
def F12Pf : ACode := .region [⟨some (80, false), .mv (.var 11), none⟩, ⟨some (81, false), .mv (.var 14), none⟩, ⟨some (8, true), .mv (.tmp 80), none⟩, ⟨some (9, true), .mv (.tmp 81), none⟩, ⟨some (10, true), .mv (.const (.bool true)), none⟩] none
def F12Pg : ACode := .ret
theorem F12L1_parts : F12L1 = .seq F12Pa (.seq F12Pb (.seq F12Pc (.seq F12Pd (.seq F12Pe (.seq F12Pf (F12Pg)))))) := rfl

def keepT (e e' : Env) : Prop := ∀ s, s ≠ 13 → s ≠ 15 → s ≠ 16 → s ≠ 60 → lookupE e' s = lookupE e s

set_option maxHeartbeats 1000000 in
theorem dig_loop {sizes : List Int} {sv : V} {t : Tb} {p q m0 n : Nat} (hs : VI sv sizes) (ht : TbOk t) (hok : sizes.all okSize = true) (hgc : goodCols sizes t.cl = true) (hn : t.cl.length = n) (hpq : p ≠ q) (hmq : m0 ≤ q) :
    ∀ (i : Nat) (k : Int) (tu : List Int) (st : St), tu.length = n → i ≤ n → 0 ≤ k → k ≤ 1000000 → st.H[q]? = some (rowI tu) → st.H[p]? = some (.cells t.cells) → m0 ≤ st.low → st.low ≤ st.H.length →
      lookupE st.vE 0 = sv → lookupE st.vE 12 = .ptr p 0 → lookupE st.vE 14 = .sref q 1 0 n n → lookupE st.vE 15 = .int .i64 ((i : Int) - 1) → lookupE st.vE 13 = .int .i64 k →
      ∃ st', execL tab (.loop F12L0) st = some (.exit 2, st') ∧ st'.H[q]? = some (rowI (dg (dimsOf sizes t.cl) i k tu)) ∧ st'.H.length = st.H.length ∧ m0 ≤ st'.low ∧ keepT st.vE st'.vE
  | 0, k, tu, st, htu, hi, hk0, hk1, hq, hp, hl1, hl2, l0, l12, l14, l15, l13 => by
    rw [execL_loop]
    refine ⟨_, by simp [F12L0, callBody, zipE, execL_seq, execL_region, execL_cond, execL_skip, execL_ret, execL_exit, execL_block, execOps, wantedA, S_mv, S_pick, S_bin, S_un, S_call0, S_call1, S_extract, S_nilEq, S_load, S_alloc, Opd.ev, lookupE, lookE_setE, St.put, binA, unA, boolOf, freezeVs, freezeV, freeze1, isP, isPs, resultsA, resultA, finish, old, olds, flat, movedH_same, Nat.min_self, loadA, readCells, cellsV_int, l15]; rfl, ?_⟩
    refine ⟨by simpa [dg] using hq, by simp, by simp; omega, fun s a b c d => by simp [lookE_setE, d]⟩
  | i + 1, k, tu, st, htu, hi, hk0, hk1, hq, hp, hl1, hl2, l0, l12, l14, l15, l13 => by
    have hit : i < tu.length := by omega
    obtain ⟨c, hcc⟩ : ∃ c, t.cl[i]? = some c := ⟨_, List.getElem?_eq_getElem (by omega)⟩
    obtain ⟨c0, c1⟩ := (goodCols_in hgc).2 c (List.mem_of_getElem? hcc)
    obtain ⟨d, hsd⟩ : ∃ d, sizes[c.toNat]? = some d := ⟨_, List.getElem?_eq_getElem (by omega)⟩
    have hdim : (dimsOf sizes t.cl)[i]? = some d := by simp [dimsOf, hcc, hsd]
    have hd1 := dims_in hok hgc d (List.mem_of_getElem? hdim)
    have hgc' := ht.cols.get hcc
    have hgd := hs.get hsd
    have e15 : ((i + 1 : Nat) : Int) - 1 = (i : Int) := by omega
    rw [e15] at l15
    have hcl := ht.cols.lt
    have hw2 : IntKind.i64.wrap ((i : Int) - 1) = (i : Int) - 1 := by rw [wrap_small] <;> omega
    have hge : (0 : Int) ≤ (i : Int) := by omega
    have hin' : i < n := by omega
    have hd0 : ¬ d = 0 := by omega
    have hq1 : k.tdiv d = k / d := Int.tdiv_eq_ediv_of_nonneg hk0
    have hq2 : k.tmod d = k % d := Int.tmod_eq_emod_of_nonneg hk0
    have hkd : 0 ≤ k / d ∧ k / d ≤ k := ⟨Int.ediv_nonneg hk0 (by omega), Int.ediv_le_self _ hk0⟩
    have hw3 : IntKind.i64.wrap (k / d) = k / d := by rw [wrap_small] <;> omega
    have hqE : ∀ h : q < st.H.length, st.H[q]'h = rowI tu := fun h => by rw [List.getElem?_eq_getElem h] at hq; exact Option.some.inj hq
    have hpE : ∀ h : p < st.H.length, st.H[p]'h = .cells t.cells := fun h => by rw [List.getElem?_eq_getElem h] at hp; exact Option.some.inj hp
    have hqH : q < st.H.length := by
      rcases Nat.lt_or_ge q st.H.length with h | h
      · exact h
      · rw [List.getElem?_eq_none h] at hq; cases hq
    have hlow : min st.low st.H.length = st.low := Nat.min_eq_left hl2
    have hstep : ∃ st1, execL tab F12L0 st = some (.normal, st1) ∧ st1.H = st.H.set q (rowI (tu.set i (k % d))) ∧ m0 ≤ st1.low ∧ st1.low ≤ st1.H.length ∧ lookupE st1.vE 15 = .int .i64 ((i : Int) - 1) ∧ lookupE st1.vE 13 = .int .i64 (k / d) ∧ keepT st.vE st1.vE := by
      refine ⟨_, by simp [F12L0, callBody, zipE, execL_seq, execL_region, execL_cond, execL_skip, execL_ret, execL_exit, execL_block, execOps, wantedA, S_mv, S_pick, S_bin, S_un, S_call0, S_call1, S_extract, S_nilEq, S_load, S_alloc, Opd.ev, lookupE, lookE_setE, St.put, binA, unA, boolOf, freezeVs, freezeV, freeze1, isP, isPs, resultsA, resultA, finish, old, olds, flat, movedH_same, Nat.min_self, loadA, readCells, cellsV_int, l0, l12, l13, l14, l15, hp, hpE, hq, hqE, hqH, S_fieldAddr, S_index, S_indexR, isRow, rowI, ht.cols.sl, hs.sl, hgc', hgd, Tb.c2, Tb.e2, Tb.len, natOf_nonneg _ c0, hd0, hq1, hq2, hw3, S_store, storeA, putElem, plainCells, plainCell, htu, hin', hit, hw2, inOrder, movedH, touches, hlow, show Nat.testBit 287 8 = true by decide]; rfl, ?_⟩
      refine ⟨by simp [rowI, List.map_set], by simp; omega, by simp; omega, by simp [lookE_setE], by simp [lookE_setE], fun s a b c d => by simp [lookE_setE, a, b, c, d]⟩
    obtain ⟨st1, q1, q2, q3, q4, q5, q6, q7⟩ := hstep
    have hq' : st1.H[q]? = some (rowI (tu.set i (k % d))) := by rw [q2, List.getElem?_set_self hqH]
    have hp' : st1.H[p]? = some (.cells t.cells) := by rw [q2, List.getElem?_set_ne (fun e => hpq e.symm)]; exact hp
    obtain ⟨st', r1, r2, r3, r4, r5⟩ := dig_loop hs ht hok hgc hn hpq hmq i (k / d) (tu.set i (k % d)) st1 (by simp [htu]) (by omega) hkd.1 (by omega) hq' hp' q3 q4
      (by rw [q7 0 (by decide) (by decide) (by decide) (by decide)]; exact l0) (by rw [q7 12 (by decide) (by decide) (by decide) (by decide)]; exact l12) (by rw [q7 14 (by decide) (by decide) (by decide) (by decide)]; exact l14) q5 q6
    refine ⟨st', by rw [execL_loop, q1]; exact r1, ?_, by rw [r3, q2]; simp, r4, fun s a b c d => (r5 s a b c d).trans (q7 s a b c d)⟩
    rw [r2]
    simp only [dg, hdim, Option.getD_some]

def keepL (e e' : Env) : Prop := ∀ s, s ∈ [0, 1, 2, 3, 25, 26, 27] → lookupE e' s = lookupE e s

theorem tu_a {tv : V} {k n : Nat} {t : Tb} {H : Heap} {st : St} (hsl : slE 6 tv = true) (hg : (el tv)[k]? = some t.v) (ht : TbOk t) (h1 : st.H = H) (hlow : st.low = n) (hn : n ≤ H.length) (l25 : lookupE st.vE 25 = tv) (l27 : lookupE st.vE 27 = .int .i64 k) :
    ∃ st', execL tab F12Pa st = some (.normal, st') ∧ st'.H = H ++ [.cells t.cells] ∧ st'.low = n ∧ lookupE st'.vE 12 = .ptr H.length 0 ∧ lookupE st'.vE 11 = .int .i64 k ∧ keepL st.vE st'.vE := by
  have hco := ht.cells
  have hset : setCells [V.str [], .int .i64 0, .nil0, .int .i64 0, .int .i64 0, .int .i64 0] 0 t.cells = t.cells := rfl
  refine ⟨_, by simp [F12Pa, callBody, zipE, execL_seq, execL_region, execL_cond, execL_skip, execL_ret, execL_exit, execL_block, execOps, wantedA, S_mv, S_pick, S_bin, S_un, S_call0, S_call1, S_extract, S_nilEq, S_load, S_alloc, Opd.ev, lookupE, lookE_setE, St.put, binA, unA, boolOf, freezeVs, freezeV, freeze1, isP, isPs, resultsA, resultA, finish, old, olds, flat, movedH_same, Nat.min_self, loadA, readCells, cellsV_int, l25, l27, S_index, hsl, hg, Tb.v, cellsV_agg, Tb.len, Tb.t6, S_store, storeA, hco, hset, h1, hlow]; rfl, ?_⟩
  exact ⟨by simp, by first | (simp; done) | (simp; omega), by simp [lookE_setE], by simp [lookE_setE, l27], fun s hs => by
    have : s ≠ 11 ∧ s ≠ 12 := by constructor <;> (rintro rfl; simp at hs)
    simp [lookE_setE, this.1, this.2]⟩
theorem tu_b {p n : Nat} {cell : Int} {t : Tb} {H : Heap} {st : St} (h1 : st.H = H) (hlow : st.low = n) (hn : n ≤ H.length) (hp : H[p]? = some (.cells t.cells)) (l3 : lookupE st.vE 3 = .int .i64 cell) (l12 : lookupE st.vE 12 = .ptr p 0) (hc : 0 ≤ cell ∧ cell < 9223372036854775808) (hf : 0 ≤ t.first ∧ t.first ≤ 1000) :
    ∃ st', execL tab F12Pb st = some (.normal, st') ∧ st'.H = H ∧ st'.low = n ∧ lookupE st'.vE 13 = .int .i64 (cell - t.first) ∧ lookupE st'.vE 11 = lookupE st.vE 11 ∧ lookupE st'.vE 12 = .ptr p 0 ∧ keepL st.vE st'.vE := by
  have n0 : min n H.length = n := Nat.min_eq_left hn
  have hpE : ∀ h : p < H.length, H[p]'h = .cells t.cells := fun h => by rw [List.getElem?_eq_getElem h] at hp; exact Option.some.inj hp
  have hw : IntKind.i64.wrap (cell - t.first) = cell - t.first := by rw [wrap_small] <;> omega
  refine ⟨_, by simp [F12Pb, callBody, zipE, execL_seq, execL_region, execL_cond, execL_skip, execL_ret, execL_exit, execL_block, execOps, wantedA, S_mv, S_pick, S_bin, S_un, S_call0, S_call1, S_extract, S_nilEq, S_load, S_alloc, Opd.ev, lookupE, lookE_setE, St.put, binA, unA, boolOf, freezeVs, freezeV, freeze1, isP, isPs, resultsA, resultA, finish, old, olds, flat, movedH_same, Nat.min_self, loadA, readCells, cellsV_int, l3, l12, hp, hpE, h1, hlow, S_fieldAddr, Tb.c5, Tb.e5, Tb.len, hw, n0]; rfl, rfl, ?_⟩
  exact ⟨by first | (simp; done) | (simp; omega), by simp [lookE_setE], by simp [lookE_setE], by simp [lookE_setE, l12], fun s hs => by
    have : s ≠ 13 := by rintro rfl; simp at hs
    simp [lookE_setE, this]⟩
theorem tu_c {p n : Nat} {cell : Int} {strict : Bool} {sizes : List Int} {sv : V} {t : Tb} {H : Heap} {st : St} (hs : VI sv sizes) (ht : TbOk t) (hok : sizes.all okSize = true) (hgc : goodCols sizes t.cl = true) (h1 : st.H = H) (hlow : st.low = n) (hn : n ≤ H.length) (hp : H[p]? = some (.cells t.cells))
    (l0 : lookupE st.vE 0 = sv) (l2 : lookupE st.vE 2 = .bool strict) (l12 : lookupE st.vE 12 = .ptr p 0) (l13 : lookupE st.vE 13 = .int .i64 (cell - t.first)) :
    ∃ st', execL tab F12Pc st = some (if hit sizes strict cell t then .normal else .exit 1, st') ∧ st'.H = H ∧ st'.low = n ∧ lookupE st'.vE 11 = lookupE st.vE 11 ∧ lookupE st'.vE 12 = .ptr p 0 ∧ lookupE st'.vE 13 = .int .i64 (cell - t.first) ∧ keepL st.vE st'.vE := by
  have n0 : min n H.length = n := Nat.min_eq_left hn
  have hpE : ∀ h : p < H.length, H[p]'h = .cells t.cells := fun h => by rw [List.getElem?_eq_getElem h] at hp; exact Option.some.inj hp
  have c1 : callL tab (.fn 33 [] []) [.agg t.cells] H = some (.bool (strictB t), H, H.length) := isStrict_s ht H
  have c2 := wid_s (H := H) hs ht hok hgc
  unfold Ans at c2
  have fin : ∀ x (st' : St), st'.H = H → st'.low = n → (∀ s, s ≠ 51 → lookupE st'.vE s = lookupE st.vE s) → execL tab F12Pc st = some (x, st') → x = (if hit sizes strict cell t then .normal else .exit 1) →
      ∃ st', execL tab F12Pc st = some (if hit sizes strict cell t then .normal else .exit 1, st') ∧ st'.H = H ∧ st'.low = n ∧ lookupE st'.vE 11 = lookupE st.vE 11 ∧ lookupE st'.vE 12 = .ptr p 0 ∧ lookupE st'.vE 13 = .int .i64 (cell - t.first) ∧ keepL st.vE st'.vE := fun x st' a b c d e => by
    subst e
    refine ⟨st', d, a, b, c 11 (by decide), by rw [c 12 (by decide)]; exact l12, by rw [c 13 (by decide)]; exact l13, fun s hs => c s (by rintro rfl; simp at hs)⟩
  cases hb : (strictB t == strict) with
  | false =>
    refine fin (.exit 1) _ ?_ ?_ ?_ (by simp [F12Pc, callBody, zipE, execL_seq, execL_region, execL_cond, execL_skip, execL_ret, execL_exit, execL_block, execOps, wantedA, S_mv, S_pick, S_bin, S_un, S_call0, S_call1, S_extract, S_nilEq, S_load, S_alloc, Opd.ev, lookupE, lookE_setE, St.put, binA, unA, boolOf, freezeVs, freezeV, freeze1, isP, isPs, resultsA, resultA, finish, old, olds, flat, movedH_same, Nat.min_self, loadA, readCells, cellsV_int, l0, l2, l12, l13, hp, hpE, h1, hlow, S_fieldAddr, Tb.t6, Tb.len, ht.isP, c1, nilEqA, hb, n0]; rfl) (by simp [hit, hb])
    · rfl
    · first | (simp; done) | (simp; omega)
    · intro s hs; simp [lookE_setE, hs]
  | true =>
    by_cases h0 : cell - t.first < 0
    · have h0' : ¬ 0 ≤ cell - t.first := by omega
      refine fin (.exit 1) _ ?_ ?_ ?_ (by simp [F12Pc, callBody, zipE, execL_seq, execL_region, execL_cond, execL_skip, execL_ret, execL_exit, execL_block, execOps, wantedA, S_mv, S_pick, S_bin, S_un, S_call0, S_call1, S_extract, S_nilEq, S_load, S_alloc, Opd.ev, lookupE, lookE_setE, St.put, binA, unA, boolOf, freezeVs, freezeV, freeze1, isP, isPs, resultsA, resultA, finish, old, olds, flat, movedH_same, Nat.min_self, loadA, readCells, cellsV_int, l0, l2, l12, l13, hp, hpE, h1, hlow, S_fieldAddr, Tb.t6, Tb.len, ht.isP, c1, nilEqA, hb, h0, n0]; rfl) (by simp only [hit, hb, h0', decide_false, Bool.and_false, Bool.false_and]; rfl)
      · rfl
      · first | (simp; done) | (simp; omega)
      · intro s hs; simp [lookE_setE, hs]
    · have h0' : 0 ≤ cell - t.first := by omega
      by_cases h3 : wid sizes t ≤ cell - t.first
      · have h3' : ¬ cell - t.first < wid sizes t := by omega
        refine fin (.exit 1) _ ?_ ?_ ?_ (by simp [F12Pc, callBody, zipE, execL_seq, execL_region, execL_cond, execL_skip, execL_ret, execL_exit, execL_block, execOps, wantedA, S_mv, S_pick, S_bin, S_un, S_call0, S_call1, S_extract, S_nilEq, S_load, S_alloc, Opd.ev, lookupE, lookE_setE, St.put, binA, unA, boolOf, freezeVs, freezeV, freeze1, isP, isPs, resultsA, resultA, finish, old, olds, flat, movedH_same, Nat.min_self, loadA, readCells, cellsV_int, l0, l2, l12, l13, hp, hpE, h1, hlow, S_fieldAddr, Tb.t6, Tb.len, Tb.c2, Tb.e2, ht.isP, slE_isP hs.sl, slE_isP ht.cols.sl, c1, c2, nilEqA, hb, h0, h3, n0]; rfl) (by simp only [hit, hb, h0', h3', decide_false, Bool.and_false]; rfl)
        · rfl
        · first | (simp; done) | (simp; omega)
        · intro s hs; simp [lookE_setE, hs]
      · have h3' : cell - t.first < wid sizes t := by omega
        refine fin .normal _ ?_ ?_ ?_ (by simp [F12Pc, callBody, zipE, execL_seq, execL_region, execL_cond, execL_skip, execL_ret, execL_exit, execL_block, execOps, wantedA, S_mv, S_pick, S_bin, S_un, S_call0, S_call1, S_extract, S_nilEq, S_load, S_alloc, Opd.ev, lookupE, lookE_setE, St.put, binA, unA, boolOf, freezeVs, freezeV, freeze1, isP, isPs, resultsA, resultA, finish, old, olds, flat, movedH_same, Nat.min_self, loadA, readCells, cellsV_int, l0, l2, l12, l13, hp, hpE, h1, hlow, S_fieldAddr, Tb.t6, Tb.len, Tb.c2, Tb.e2, ht.isP, slE_isP hs.sl, slE_isP ht.cols.sl, c1, c2, nilEqA, hb, h0, h3, n0]; rfl) (by simp only [hit, hb, h0', h3', decide_true, Bool.and_true, if_true])
        · rfl
        · first | (simp; done) | (simp; omega)
        · intro s hs; simp [lookE_setE, hs]
end Go.Abs.T09
/- cells.Tuple, whole. -/
namespace Go.Abs.T09
open Go Go.Abs

theorem keepL.trans {a b c : Env} (h1 : keepL a b) (h2 : keepL b c) : keepL a c := fun s hs => (h2 s hs).trans (h1 s hs)

/-- The row that is handed back. -/
def RowAt (n0 : Nat) (H : Heap) (v : V) (l : List Int) : Prop := (l = [] ∧ v = .emp) ∨ (l ≠ [] ∧ ∃ q, n0 ≤ q ∧ v = .sref q 1 0 l.length l.length ∧ H[q]? = some (rowI l))

set_option maxHeartbeats 1000000 in
theorem tu_found {sizes : List Int} {sv : V} {t : Tb} {p n0 idx : Nat} {k : Int} {H : Heap} {st : St} (hs : VI sv sizes) (ht : TbOk t) (hok : sizes.all okSize = true) (hgc : goodCols sizes t.cl = true) (h1 : st.H = H) (hlow : st.low = n0) (hn : n0 ≤ H.length) (hp : H[p]? = some (.cells t.cells))
    (hk : 0 ≤ k ∧ k ≤ 1000000) (l0 : lookupE st.vE 0 = sv) (l11 : lookupE st.vE 11 = .int .i64 idx) (l12 : lookupE st.vE 12 = .ptr p 0) (l13 : lookupE st.vE 13 = .int .i64 k) :
    ∃ st', execL tab (.seq F12Pd (.seq F12Pe (.seq F12Pf F12Pg))) st = some (.ret, st') ∧ n0 ≤ st'.low ∧ n0 ≤ st'.H.length ∧ lookupE st'.vE 8 = .int .i64 idx ∧ lookupE st'.vE 10 = .bool true ∧ RowAt n0 st'.H (lookupE st'.vE 9) (tupleOf (dimsOf sizes t.cl) k) := by
  have hdl : (dimsOf sizes t.cl).length = t.cl.length := by simp [dimsOf]
  have h3 := (goodCols_in hgc).1
  have hpE : ∀ h : p < H.length, H[p]'h = .cells t.cells := fun h => by rw [List.getElem?_eq_getElem h] at hp; exact Option.some.inj hp
  have hm0 : min n0 H.length = n0 := Nat.min_eq_left hn
  have hpl : p < H.length := by
    rcases Nat.lt_or_ge p H.length with h | h
    · exact h
    · rw [List.getElem?_eq_none h] at hp; cases hp
  have F : ∀ (s2 : St) (v : V), lookupE s2.vE 11 = .int .i64 idx → lookupE s2.vE 14 = v → n0 ≤ s2.low → n0 ≤ s2.H.length → ∃ st', execL tab (.seq F12Pf F12Pg) s2 = some (.ret, st') ∧ n0 ≤ st'.low ∧ st'.H = s2.H ∧ lookupE st'.vE 8 = .int .i64 idx ∧ lookupE st'.vE 10 = .bool true ∧ lookupE st'.vE 9 = v := fun s2 v a b c d => by
    refine ⟨_, by simp [F12Pf, F12Pg, callBody, zipE, execL_seq, execL_region, execL_cond, execL_skip, execL_ret, execL_exit, execL_block, execOps, wantedA, S_mv, S_pick, S_bin, S_un, S_call0, S_call1, S_extract, S_nilEq, S_load, S_alloc, Opd.ev, lookupE, lookE_setE, St.put, binA, unA, boolOf, freezeVs, freezeV, freeze1, isP, isPs, resultsA, resultA, finish, old, olds, flat, movedH_same, Nat.min_self, loadA, readCells, cellsV_int, a, b]; rfl, ?_⟩
    exact ⟨by simp; omega, by simp, by simp [lookE_setE], by simp [lookE_setE], by simp [lookE_setE]⟩
  by_cases hz : t.cl = []
  · have hz2 : t.cl.length = 0 := by rw [hz]; rfl
    have hel : (el t.cv).length = 0 := by rw [ht.cols.len, hz2]
    have D : ∃ s1, execL tab F12Pd st = some (.normal, s1) ∧ s1.H = H ∧ n0 ≤ s1.low ∧ s1.low ≤ s1.H.length ∧ lookupE s1.vE 14 = .emp ∧ lookupE s1.vE 11 = .int .i64 idx := by
      refine ⟨_, by simp [F12Pd, callBody, zipE, execL_seq, execL_region, execL_cond, execL_skip, execL_ret, execL_exit, execL_block, execOps, wantedA, S_mv, S_pick, S_bin, S_un, S_call0, S_call1, S_extract, S_nilEq, S_load, S_alloc, Opd.ev, lookupE, lookE_setE, St.put, binA, unA, boolOf, freezeVs, freezeV, freeze1, isP, isPs, resultsA, resultA, finish, old, olds, flat, movedH_same, Nat.min_self, loadA, readCells, cellsV_int, l12, hp, hpE, h1, hlow, S_fieldAddr, Tb.c2, Tb.e2, Tb.len, S_len 1, ht.cols.sl, hel, S_mkSlice, step, hm0]; rfl, rfl, ?_⟩
      exact ⟨by simp, by first | (simp; done) | (simp; omega), by simp [lookE_setE], by simp [lookE_setE, l11]⟩
    obtain ⟨s1, a1, a2, a3, a4, a5, a6⟩ := D
    have E : ∃ s2, execL tab F12Pe s1 = some (.normal, s2) ∧ s2.H = H ∧ n0 ≤ s2.low ∧ lookupE s2.vE 14 = .emp ∧ lookupE s2.vE 11 = .int .i64 idx := by
      have hw : IntKind.i64.wrap (-1) = -1 := rfl
      refine ⟨_, by simp [F12Pe, callBody, zipE, execL_seq, execL_region, execL_cond, execL_skip, execL_ret, execL_exit, execL_block, execOps, wantedA, S_mv, S_pick, S_bin, S_un, S_call0, S_call1, S_extract, S_nilEq, S_load, S_alloc, Opd.ev, lookupE, lookE_setE, St.put, binA, unA, boolOf, freezeVs, freezeV, freeze1, isP, isPs, resultsA, resultA, finish, old, olds, flat, movedH_same, Nat.min_self, loadA, readCells, cellsV_int, a5, S_len 1, slE, el, hw]; rw [execL_loop]; simp [F12L0, callBody, zipE, execL_seq, execL_region, execL_cond, execL_skip, execL_ret, execL_exit, execL_block, execOps, wantedA, S_mv, S_pick, S_bin, S_un, S_call0, S_call1, S_extract, S_nilEq, S_load, S_alloc, Opd.ev, lookupE, lookE_setE, St.put, binA, unA, boolOf, freezeVs, freezeV, freeze1, isP, isPs, resultsA, resultA, finish, old, olds, flat, movedH_same, Nat.min_self, loadA, readCells, cellsV_int]; rfl, ?_⟩
      exact ⟨by simp [a2], by simp; rw [a2] at *; omega, by simp [lookE_setE, a5], by simp [lookE_setE, a6]⟩
    obtain ⟨s2, b1, b2, b3, b4, b5⟩ := E
    obtain ⟨st', c1, c2, c3, c4, c5, c6⟩ := F s2 _ b5 b4 b3 (by rw [b2]; exact hn)
    refine ⟨st', ?_, c2, by rw [c3, b2]; exact hn, c4, c5, .inl ⟨?_, c6⟩⟩
    · rw [execL_seq, a1]
      simp only []
      rw [execL_seq, b1]
      exact c1
    · rw [hz]; rfl
  · have hpos : 0 < t.cl.length := List.length_pos_iff.2 hz
    have hnz : ¬ (t.cl.length : Int) = 0 := by omega
    have hnz' : ¬ t.cl.length = 0 := by omega
    have hcap : (t.cl.length : Int) * 9 ≤ 1099511627776 := by omega
    have D : ∃ s1, execL tab F12Pd st = some (.normal, s1) ∧ s1.H = H ++ [rowI (List.replicate t.cl.length 0)] ∧ n0 ≤ s1.low ∧ s1.low ≤ s1.H.length ∧ lookupE s1.vE 14 = .sref H.length 1 0 t.cl.length t.cl.length ∧ ∀ s, s ≠ 14 → lookupE s1.vE s = lookupE st.vE s := by
      refine ⟨_, by simp [F12Pd, callBody, zipE, execL_seq, execL_region, execL_cond, execL_skip, execL_ret, execL_exit, execL_block, execOps, wantedA, S_mv, S_pick, S_bin, S_un, S_call0, S_call1, S_extract, S_nilEq, S_load, S_alloc, Opd.ev, lookupE, lookE_setE, St.put, binA, unA, boolOf, freezeVs, freezeV, freeze1, isP, isPs, resultsA, resultA, finish, old, olds, flat, movedH_same, Nat.min_self, loadA, readCells, cellsV_int, l12, hp, hpE, h1, hlow, S_fieldAddr, Tb.c2, Tb.e2, Tb.len, S_len 1, ht.cols.sl, ht.cols.len, S_mkSlice, step, zeroElem, hnz, hnz', hz, hcap, hm0]; rfl, ?_⟩
      exact ⟨by simp [rowI], by simp; omega, by simp; omega, by simp [lookE_setE], fun s hs => by simp [lookE_setE, hs]⟩
    obtain ⟨s1, a1, a2, a3, a4, a5, a6⟩ := D
    have hrow : s1.H[H.length]? = some (rowI (List.replicate t.cl.length 0)) := by rw [a2]; simp
    have hp1 : s1.H[p]? = some (.cells t.cells) := by rw [a2]; exact get_app hp _
    have hw : IntKind.i64.wrap ((t.cl.length : Int) - 1) = (t.cl.length : Int) - 1 := by rw [wrap_small] <;> omega
    have E0 : ∃ s2, execL tab (.region [⟨some (56, false), .mv (.var 14), none⟩, ⟨some (57, false), .len 1 (.tmp 56), none⟩, ⟨some (58, false), .bin .sub (.tmp 57) (.const (.int .i64 1)), none⟩, ⟨some (15, true), .mv (.tmp 58), none⟩] none) s1 = some (.normal, s2) ∧ s2.H = s1.H ∧ n0 ≤ s2.low ∧ s2.low ≤ s2.H.length ∧ lookupE s2.vE 15 = .int .i64 ((t.cl.length : Int) - 1) ∧ ∀ s, s ≠ 15 → lookupE s2.vE s = lookupE s1.vE s := by
      have hrE : ∀ h : H.length < s1.H.length, s1.H[H.length]'h = rowI (List.replicate t.cl.length 0) := fun h => by rw [List.getElem?_eq_getElem h] at hrow; exact Option.some.inj hrow
      refine ⟨_, by simp [callBody, zipE, execL_seq, execL_region, execL_cond, execL_skip, execL_ret, execL_exit, execL_block, execOps, wantedA, S_mv, S_pick, S_bin, S_un, S_call0, S_call1, S_extract, S_nilEq, S_load, S_alloc, Opd.ev, lookupE, lookE_setE, St.put, binA, unA, boolOf, freezeVs, freezeV, freeze1, isP, isPs, resultsA, resultA, finish, old, olds, flat, movedH_same, Nat.min_self, loadA, readCells, cellsV_int, a5, S_lenR, isRow, hrow, hrE, rowI, hw]; rfl, ?_⟩
      exact ⟨by simp, by simp; omega, by simp; omega, by simp [lookE_setE], fun s hs => by simp [lookE_setE, hs]⟩
    obtain ⟨s2, b1, b2, b3, b4, b5, b6⟩ := E0
    obtain ⟨s3, d1, d2, d3, d4, d5⟩ := dig_loop (p := p) (q := H.length) (m0 := n0) hs ht hok hgc rfl (by omega) hn t.cl.length k (List.replicate t.cl.length 0) s2 (by simp) (Nat.le_refl _) hk.1 hk.2 (by rw [b2]; exact hrow) (by rw [b2]; exact hp1) b3 b4
      (by rw [b6 0 (by decide), a6 0 (by decide)]; exact l0) (by rw [b6 12 (by decide), a6 12 (by decide)]; exact l12) (by rw [b6 14 (by decide)]; exact a5) b5 (by rw [b6 13 (by decide), a6 13 (by decide)]; exact l13)
    obtain ⟨st', c1, c2, c3, c4, c5, c6⟩ := F s3 (.sref H.length 1 0 t.cl.length t.cl.length) (by rw [d5 11 (by decide) (by decide) (by decide) (by decide), b6 11 (by decide), a6 11 (by decide)]; exact l11) (by rw [d5 14 (by decide) (by decide) (by decide) (by decide), b6 14 (by decide)]; exact a5) d4 (by rw [d3, b2, a2]; simp; omega)
    have htl : (tupleOf (dimsOf sizes t.cl) k).length = t.cl.length := by unfold tupleOf; rw [dg_length]; simp [hdl]
    refine ⟨st', ?_, c2, by rw [c3, d3, b2, a2]; simp; omega, c4, c5, .inr ⟨fun e => ?_, H.length, hn, by rw [htl]; exact c6, ?_⟩⟩
    · rw [execL_seq, a1]
      simp only []
      have hE : F12Pe = .seq (.region [⟨some (56, false), .mv (.var 14), none⟩, ⟨some (57, false), .len 1 (.tmp 56), none⟩, ⟨some (58, false), .bin .sub (.tmp 57) (.const (.int .i64 1)), none⟩, ⟨some (15, true), .mv (.tmp 58), none⟩] none) (.block 2 (.loop F12L0)) := rfl
      rw [execL_seq, hE, execL_seq, b1]
      simp only []
      rw [execL_block, d1]
      simp only [if_true]
      exact c1
    · rw [e] at htl; simp at htl; omega
    · rw [c3, d2]
      unfold tupleOf
      rw [hdl]

set_option maxHeartbeats 1000000 in
theorem tu_loop {sizes : List Int} {sv tv : V} {ts : List Tb} {n : Nat} {strict : Bool} {cell : Int} (hs : VI sv sizes) (ht : VT tv ts) (hV : Valid sizes ts) (hc : 0 ≤ cell ∧ cell < 9223372036854775808) {st : St} (hH : n ≤ st.H.length) (hlow : st.low = n)
    (l0 : lookupE st.vE 0 = sv) (l2 : lookupE st.vE 2 = .bool strict) (l3 : lookupE st.vE 3 = .int .i64 cell) (l25 : lookupE st.vE 25 = tv) (l26 : lookupE st.vE 26 = .int .i64 ts.length) (l27 : lookupE st.vE 27 = .int .i64 0) :
    ∃ x st', execL tab (.loop (rangeBody 28 26 27 82 1 0 F12L1)) st = some (x, st') ∧ n ≤ st'.low ∧ n ≤ st'.H.length ∧ ((x = .exit 0 ∧ ts.findIdx? (hit sizes strict cell) = none) ∨
      (x = .ret ∧ ∃ i t, ts.findIdx? (hit sizes strict cell) = some i ∧ ts[i]? = some t ∧ lookupE st'.vE 8 = .int .i64 i ∧ lookupE st'.vE 10 = .bool true ∧ RowAt n st'.H (lookupE st'.vE 9) (tupleOf (dimsOf sizes t.cl) (cell - t.first)))) := by
  have key := range_loop (tab := tab) (b := 28) (n := 26) (i := 27) (t := 82) (blk := 1) (ex := 0) (body := F12L1)
    (I := fun k st => n ≤ st.H.length ∧ st.low = n ∧ lookupE st.vE 0 = sv ∧ lookupE st.vE 2 = .bool strict ∧ lookupE st.vE 3 = .int .i64 cell ∧ lookupE st.vE 25 = tv ∧ lookupE st.vE 27 = .int .i64 k ∧ lookupE st.vE 26 = .int .i64 ts.length ∧ ∀ t ∈ ts.take k, hit sizes strict cell t = false)
    (Q := fun x st' => n ≤ st'.low ∧ n ≤ st'.H.length ∧ ((x = .exit 0 ∧ ts.findIdx? (hit sizes strict cell) = none) ∨
      (x = .ret ∧ ∃ i t, ts.findIdx? (hit sizes strict cell) = some i ∧ ts[i]? = some t ∧ lookupE st'.vE 8 = .int .i64 i ∧ lookupE st'.vE 10 = .bool true ∧ RowAt n st'.H (lookupE st'.vE 9) (tupleOf (dimsOf sizes t.cl) (cell - t.first)))))
    (N := ts.length) ht.lt (by decide) (by decide)
    (fun k st h => ⟨h.2.2.2.2.2.2.1, h.2.2.2.2.2.2.2.1, by rw [h.2.1]; exact h.1⟩)
    (by
      rintro k st hk ⟨q1, q2, q3, q4, q5, q6, q7, q8, q9⟩
      obtain ⟨t, het⟩ : ∃ t, ts[k]? = some t := ⟨_, List.getElem?_eq_getElem hk⟩
      have hto := ht.ok t (List.mem_of_getElem? het)
      have hg := ht.get het
      have hgc := hV.good het
      have hfi := hV.end_le het
      have hwd := hV.widb het
      have hsa := hV.sum_all (strictB t)
      obtain ⟨s1, a1, a2, a3, a4, a5, a6⟩ := tu_a (n := n) (H := st.H) (st := { st with tE := [], vE := setE st.vE 28 (.bool true) }) ht.sl hg hto rfl q2 q1 (by simp [lookE_setE, q6]) (by simp [lookE_setE, q7])
      have K1 : ∀ s, s ∈ [0, 1, 2, 3, 25, 26, 27] → lookupE s1.vE s = lookupE st.vE s := fun s hs => by
        rw [a6 s hs]
        have : s ≠ 28 := by rintro rfl; simp at hs
        simp [lookE_setE, this]
      have hp1 : s1.H[st.H.length]? = some (.cells t.cells) := by rw [a2]; simp
      have hn1 : n ≤ s1.H.length := by rw [a2]; simp; omega
      obtain ⟨s2, b1, b2, b3, b4, b5, b6, b7⟩ := tu_b (n := n) (cell := cell) rfl a3 hn1 hp1 (by rw [K1 3 (by simp)]; exact q5) a4 hc ⟨hfi.1, by omega⟩
      obtain ⟨s3, c1, c2, c3, c4, c5, c6, c7⟩ := tu_c (n := n) (strict := strict) (cell := cell) hs hto hV.ok hgc b2 b3 hn1 hp1 (by rw [b7 0 (by simp), K1 0 (by simp)]; exact q3) (by rw [b7 2 (by simp), K1 2 (by simp)]; exact q4) b6 b4
      have K3 : ∀ s, s ∈ [0, 1, 2, 3, 25, 26, 27] → lookupE s3.vE s = lookupE st.vE s := fun s hs => by rw [c7 s hs, b7 s hs, K1 s hs]
      cases hh : hit sizes strict cell t with
      | false =>
        rw [hh] at c1
        refine ⟨.exit 1, s3, ?_, ?_⟩
        · rw [F12L1_parts, execL_seq, a1]
          simp only []
          rw [execL_seq, b1]
          simp only []
          rw [execL_seq, c1]
          simp
        · simp only [or_true, if_true]
          have hn3 : n ≤ s3.H.length := by rw [c2]; exact hn1
          refine ⟨by rw [K3 27 (by simp)]; exact q7, by rw [c3]; exact hn3, hn3, c3, ?_, ?_, ?_, ?_, ?_, ?_, ?_⟩
          · simp only [lookE_setE]; rw [K3 0 (by simp)]; simpa using q3
          · simp only [lookE_setE]; rw [K3 2 (by simp)]; simpa using q4
          · simp only [lookE_setE]; rw [K3 3 (by simp)]; simpa using q5
          · simp only [lookE_setE]; rw [K3 25 (by simp)]; simpa using q6
          · simp [lookE_setE]
          · simp only [lookE_setE]; rw [K3 26 (by simp)]; simpa using q8
          · intro m hm
            rw [List.take_add_one, het] at hm
            simp at hm
            rcases hm with hm | rfl
            · exact q9 m hm
            · exact hh
      | true =>
        rw [hh] at c1
        have hk2 : 0 ≤ cell - t.first ∧ cell - t.first < wid sizes t := by
          simp only [hit, Bool.and_eq_true, decide_eq_true_eq] at hh
          exact ⟨hh.1.2, hh.2⟩
        obtain ⟨s4, d1, d2, d3, d4, d5, d6⟩ := tu_found (n0 := n) (idx := k) (k := cell - t.first) hs hto hV.ok hgc c2 c3 hn1 hp1 ⟨hk2.1, by omega⟩ (by rw [K3 0 (by simp)]; exact q3) (by rw [c4, b5]; exact a5) c5 c6
        refine ⟨.ret, s4, ?_, ?_⟩
        · rw [F12L1_parts, execL_seq, a1]
          simp only []
          rw [execL_seq, b1]
          simp only []
          rw [execL_seq, c1]
          simp only [if_true]
          exact d1
        · simp only [reduceCtorEq, or_self, if_false]
          refine ⟨d2, d3, .inr ⟨trivial, k, t, ?_, het, d4, d5, d6⟩⟩
          rw [List.findIdx?_eq_some_iff_getElem]
          refine ⟨hk, ?_, fun j hj => ?_⟩
          · have : ts[k] = t := by rw [List.getElem?_eq_getElem hk] at het; exact Option.some.inj het
            rw [this]; exact hh
          · have : ts[j] ∈ ts.take k := List.mem_take_iff_getElem.2 ⟨j, by omega, rfl⟩
            simp [q9 _ this])
    (by
      rintro st ⟨q1, q2, q3, q4, q5, q6, q7, q8, q9⟩
      refine ⟨by show n ≤ st.low; omega, q1, .inl ⟨rfl, ?_⟩⟩
      rw [List.findIdx?_eq_none_iff]
      intro t hm
      exact q9 t (by rw [List.take_length]; exact hm))
  exact key ts.length 0 st (by omega) ⟨hH, hlow, l0, l2, l3, l25, l27, l26, fun t hm => by simp at hm⟩

set_option maxHeartbeats 2000000 in
theorem tuple_s {sizes : List Int} {sv tv : V} {ts : List Tb} {strict : Bool} {cell : Int} (hs : VI sv sizes) (ht : VT tv ts) (hc : cell < 9223372036854775808) (H : Heap) :
    Ans (.fn 12 [] []) [sv, tv, .bool strict, .int .i64 cell] H (tupleR sizes ts strict cell) := by
  have hv := valid_s hs ht H
  unfold Ans at *
  rw [callL_fn, show tab 12 = some (.code F12) from rfl]
  unfold tupleR
  cases hV : validB sizes ts with
  | false =>
    rw [hV] at hv
    simp [F12, callBody, zipE, execL_seq, execL_region, execL_cond, execL_skip, execL_ret, execL_exit, execL_block, execOps, wantedA, S_mv, S_pick, S_bin, S_un, S_call0, S_call1, S_extract, S_nilEq, S_load, S_alloc, Opd.ev, lookupE, setE, St.put, binA, unA, boolOf, freezeVs, freezeV, freeze1, isP, isPs, resultsA, resultA, finish, old, olds, flat, movedH_same, Nat.min_self, loadA, readCells, cellsV_int, slE_isP hs.sl, slE_isP ht.sl, hv]
  | true =>
    rw [hV] at hv
    have hVd := valid_iff.1 hV
    by_cases h0 : cell < 0
    · simp [F12, callBody, zipE, execL_seq, execL_region, execL_cond, execL_skip, execL_ret, execL_exit, execL_block, execOps, wantedA, S_mv, S_pick, S_bin, S_un, S_call0, S_call1, S_extract, S_nilEq, S_load, S_alloc, Opd.ev, lookupE, setE, St.put, binA, unA, boolOf, freezeVs, freezeV, freeze1, isP, isPs, resultsA, resultA, finish, old, olds, flat, movedH_same, Nat.min_self, loadA, readCells, cellsV_int, slE_isP hs.sl, slE_isP ht.sl, hv, h0]
    · obtain ⟨x, st', r1, r2, r3, r4⟩ := tu_loop (n := H.length) (strict := strict) hs ht hVd ⟨by omega, hc⟩
        (st := { tE := [], vE := [(0, sv), (1, tv), (2, .bool strict), (3, .int .i64 cell), (8, .int .i64 0), (9, .nil0), (10, .bool false), (24, .bool false), (25, tv), (26, .int .i64 ts.length), (27, .int .i64 0)], H := H, low := H.length }) (Nat.le_refl _) rfl rfl rfl rfl rfl rfl rfl
      have hmin : min H.length st'.H.length = H.length := Nat.min_eq_left r3
      have hmin2 : H.length ≤ min st'.low st'.H.length := by omega
      rcases r4 with ⟨rfl, r4⟩ | ⟨rfl, i, t, r4, r5, r6, r7, r8⟩
      · simp [F12, callBody, zipE, execL_seq, execL_region, execL_cond, execL_skip, execL_ret, execL_exit, execL_block, execOps, wantedA, S_mv, S_pick, S_bin, S_un, S_call0, S_call1, S_extract, S_nilEq, S_load, S_alloc, Opd.ev, lookupE, setE, St.put, binA, unA, boolOf, freezeVs, freezeV, freeze1, isP, isPs, resultsA, resultA, finish, old, olds, flat, movedH_same, Nat.min_self, loadA, readCells, cellsV_int, slE_isP hs.sl, slE_isP ht.sl, hv, h0, S_len 6, ht.sl, ht.len, r1, r2, r3, r4, lookE_setE, hmin2]
      · rcases r8 with ⟨e1, e2⟩ | ⟨e1, q, e2, e3, e4⟩
        · simp [F12, callBody, zipE, execL_seq, execL_region, execL_cond, execL_skip, execL_ret, execL_exit, execL_block, execOps, wantedA, S_mv, S_pick, S_bin, S_un, S_call0, S_call1, S_extract, S_nilEq, S_load, S_alloc, Opd.ev, lookupE, setE, St.put, binA, unA, boolOf, freezeVs, freezeV, freeze1, isP, isPs, resultsA, resultA, finish, old, olds, flat, movedH_same, Nat.min_self, loadA, readCells, cellsV_int, slE_isP hs.sl, slE_isP ht.sl, hv, h0, S_len 6, ht.sl, ht.len, r1, r2, r3, r4, r5, r6, r7, e1, e2, tupV, lookE_setE]
        · have e4E : ∀ h : q < st'.H.length, st'.H[q]'h = rowI (tupleOf (dimsOf sizes t.cl) (cell - t.first)) := fun h => by rw [List.getElem?_eq_getElem h] at e4; exact Option.some.inj e4
          have hip := isPs_ints (tupleOf (dimsOf sizes t.cl) (cell - t.first))
          generalize hl : tupleOf (dimsOf sizes t.cl) (cell - t.first) = l at *
          have htk : List.take l.length (l.map (V.int .i64)) = l.map (V.int .i64) := List.take_of_length_le (by simp)
          simp [F12, callBody, zipE, execL_seq, execL_region, execL_cond, execL_skip, execL_ret, execL_exit, execL_block, execOps, wantedA, S_mv, S_pick, S_bin, S_un, S_call0, S_call1, S_extract, S_nilEq, S_load, S_alloc, Opd.ev, lookupE, setE, St.put, binA, unA, boolOf, freezeVs, freezeV, freeze1, isP, isPs, resultsA, resultA, finish, old, olds, flat, movedH_same, Nat.min_self, loadA, readCells, cellsV_int, slE_isP hs.sl, slE_isP ht.sl, hv, h0, S_len 6, ht.sl, ht.len, r1, r2, r3, r4, r5, r6, r7, hl, e1, e2, e3, e4, e4E, rowI, hip, htk, freezeL, tupV, lookE_setE]
          intro h; omega
end Go.Abs.T09
/- slices.Repeat of one range. -/
namespace Go.Abs.T09
open Go Go.Abs

def u64 (n : Int) : V := .int .u64 n
theorem b_and {W : Nat} (h : W < 4294967296) : binA .and (u64 W) (u64 4294967295) = some (u64 W) := by
  have e : (BitVec.ofInt 64 (W : Int) &&& BitVec.ofInt 64 4294967295).toNat = W := by
    rw [BitVec.toNat_and]
    have h1 : (BitVec.ofInt 64 (W : Int)).toNat = W := by
      rw [BitVec.toNat_ofInt]; omega
    have h2 : (BitVec.ofInt 64 4294967295).toNat = 2 ^ 32 - 1 := by decide
    rw [h1, h2, Nat.and_two_pow_sub_one_eq_mod]
    omega
  have e0 : binA .and (u64 W) (u64 4294967295) = some (.int .u64 (IntKind.u64.wrap ((BitVec.ofInt 64 (W : Int) &&& BitVec.ofInt 64 4294967295).toNat : Int))) := rfl
  rw [e0, e]
  have : IntKind.u64.wrap (W : Int) = W := by
    have e1 : (2 ^ IntKind.u64.bits : Int) = 18446744073709551616 := rfl
    have s : IntKind.u64.signed = false := rfl
    simp only [IntKind.wrap, e1, s, Bool.false_and]
    simp; omega
  rw [this]; rfl
theorem wrap_u {n : Int} (h1 : 0 ≤ n) (h2 : n < 18446744073709551616) : IntKind.u64.wrap n = n := by
  have e1 : (2 ^ IntKind.u64.bits : Int) = 18446744073709551616 := rfl
  have s : IntKind.u64.signed = false := rfl
  simp only [IntKind.wrap, e1, s, Bool.false_and]
  simp; omega
theorem b_shr {W : Nat} (h : W < 4294967296) : binA .shr (u64 W) (u64 32) = some (u64 0) := by
  have : (W : Int) / 4294967296 = 0 := Int.ediv_eq_zero_of_lt (by omega) (by omega)
  simp [u64, binA, IntKind.bits, this]
theorem b_mul1 {W : Nat} (h : W < 4294967296) : binA .mul (u64 1) (u64 W) = some (u64 W) := by
  simp [u64, binA, wrap_u (n := (W : Int)) (by omega) (by omega)]
theorem b_mul0 {W : Nat} : binA .mul (u64 0) (u64 W) = some (u64 0) := by
  simp [u64, binA, wrap_u (n := 0) (by omega) (by omega)]
theorem b1 : binA .and (u64 1) (u64 4294967295) = some (u64 1) := b_and (W := 1) (by decide)
theorem b2 : binA .shr (u64 1) (u64 32) = some (u64 0) := b_shr (W := 1) (by decide)
theorem b3 : binA .add (u64 0) (u64 0) = some (u64 0) := by kernel_rfl
theorem b4 : binA .and (u64 0) (u64 4294967295) = some (u64 0) := b_and (W := 0) (by decide)
theorem b5 : binA .shr (u64 0) (u64 32) = some (u64 0) := b_shr (W := 0) (by decide)
theorem b6 : binA .mul (u64 1) (u64 0) = some (u64 0) := by kernel_rfl
theorem b7 : binA .mul (u64 0) (u64 0) = some (u64 0) := by kernel_rfl

set_option maxHeartbeats 1000000 in
theorem mul64_s {W : Nat} (h : W < 4294967296) (H : Heap) : Ans (.fn 94 [] []) [u64 1, u64 W] H (.tup [u64 0, u64 W]) := by
  unfold Ans
  have c : ∀ n, V.int .u64 n = u64 n := fun _ => rfl
  have i1 : ∀ n, isP (u64 n) = true := fun _ => rfl
  rw [callL_fn, show tab 94 = some (.code F94) from rfl]
  simp [F94, callBody, zipE, execL_seq, execL_region, execL_ret, execOps, wantedA, S_mv, S_bin, Opd.ev, lookupE, setE, St.put, freezeV, isP, isPs, resultsA, resultA, finish, old, olds, Nat.min_self, movedH_same, c, i1, b_and h, b_shr h, b_mul1 h, b_mul0, b1, b2, b3, b4, b5, b6, b7]

theorem S_convI {call : CallT} {ev : Opd → V} {H : Heap} {low : Nat} (k : IntKind) (x : Opd) : stepC call ev H low (.conv k x) = step ev H low (.conv k x) := rfl

set_option maxHeartbeats 1000000 in
theorem mul_s {W : Nat} (h : W < 4294967296) (H : Heap) : Ans (.fn 80 [] []) [.int .u64 1, .int .u64 W] H (.tup [.int .u64 0, .int .u64 W]) := by
  have hm := mul64_s h H
  unfold Ans u64 at *
  rw [callL_fn, show tab 80 = some (.code F80) from rfl]
  simp [F80, callBody, zipE, execL_seq, execL_region, execL_cond, execL_skip, execL_ret, execL_exit, execL_block, execOps, wantedA, S_mv, S_pick, S_bin, S_un, S_call0, S_call1, S_extract, S_nilEq, S_load, S_alloc, S_box, Opd.ev, lookupE, setE, St.put, binA, unA, boolOf, freezeVs, freezeV, freeze1, isP, isPs, resultsA, resultA, finish, old, olds, flat, movedH_same, Nat.min_self, loadA, readCells, cellsV, hm]

def rngV (lo hi : Int) : V := .agg [.int .i64 lo, .int .i64 hi]
def zV : V := .agg [.int .i64 0, .int .i64 0]
def part (e : V) (m W : Nat) : List V := List.replicate m e ++ List.replicate (W - m) zV
theorem part_len {e : V} {m W : Nat} (h : m ≤ W) : (part e m W).length = W := by simp [part]; omega
theorem part_take {e : V} {m W : Nat} : (part e m W).take m = List.replicate m e := by simp [part, List.take_append]
theorem part_step {e : V} {m W : Nat} (h : m ≤ W) (h1 : 1 ≤ m) : (part e m W).take m ++ ((part e m W).take m).take (W - m) ++ (part e m W).drop (m + min (W - m) m) = part e (m + min (W - m) m) W := by
  rw [part_take, List.take_replicate]
  unfold part
  rw [List.drop_append, List.drop_replicate, List.drop_replicate, List.length_replicate]
  rw [show m - (m + min (W - m) m) = 0 by omega]
  simp only [List.replicate_zero, List.nil_append]
  rw [show W - m - (m + min (W - m) m - m) = W - (m + min (W - m) m) by omega, List.replicate_append_replicate]

theorem plain_part {a b : Int} (m : Nat) : plainCells ((List.replicate m (rngV a b)).flatMap cellsV) = true := by
  induction m with
  | zero => rfl
  | succ m ih => rw [List.replicate_succ, List.flatMap_cons]; simp [rngV, cellsV, plainCells, plainCell] at ih ⊢; exact ih
end Go.Abs.T09
/- slices.Repeat of one range, whole. -/
namespace Go.Abs.T09
open Go Go.Abs

set_option maxHeartbeats 1000000 in
theorem rep_loop {a b : Int} {W : Nat} {H : Heap} (hW : W ≤ 1000) : ∀ (j m : Nat) (st : St), m + j = W → 1 ≤ m → st.H = H ++ [.row 2 (part (rngV a b) m W) false] → H.length ≤ st.low → st.low ≤ H.length + 1 → lookupE st.vE 7 = .sref H.length 2 0 W W → lookupE st.vE 8 = .int .i64 m →
    ∃ st', execL tab (.loop F57L0) st = some (.exit 0, st') ∧ st'.H = H ++ [.row 2 (part (rngV a b) W W) false] ∧ H.length ≤ st'.low ∧ lookupE st'.vE 7 = .sref H.length 2 0 W W := by
  intro j
  induction j using Nat.strongRecOn with
  | ind j ih =>
    intro m st hj hm h1 h2 h2' l7 l8
    have hpl := part_len (e := rngV a b) (m := m) (W := W) (by omega)
    by_cases hmW : m = W
    · subst hmW
      rw [execL_loop]
      refine ⟨_, by simp [F57L0, callBody, zipE, execL_seq, execL_region, execL_cond, execL_skip, execL_ret, execL_exit, execL_block, execOps, wantedA, S_mv, S_pick, S_bin, S_un, S_call0, S_call1, S_extract, S_nilEq, S_load, S_alloc, Opd.ev, lookupE, lookE_setE, St.put, binA, unA, boolOf, freezeVs, freezeV, freeze1, isP, isPs, resultsA, resultA, finish, old, olds, flat, movedH_same, Nat.min_self, loadA, readCells, cellsV_int, h1, l7, l8, S_lenR, isRow, get_off0, hpl]; rfl, ?_⟩
      exact ⟨by simp, by simp; omega, by simp [lookE_setE, l7]⟩
    · have hlt : (m : Int) < (W : Int) := by omega
      have hlt' : m < W := by omega
      have hle' : m ≤ W := by omega
      have hpp := plain_part (a := a) (b := b) m
      have hst := part_step (e := rngV a b) (m := m) (W := W) (by omega) hm
      have hw : IntKind.i64.wrap ((m : Int) + ((min (W - m) m : Nat) : Int)) = ((m + min (W - m) m : Nat) : Int) := by rw [wrap_small] <;> omega
      have htk := part_take (e := rngV a b) (m := m) (W := W)
      have hrl : (List.replicate m (rngV a b)).length = m := by simp
      have hmW2 : m + (W - m) = W := by omega
      have hstep : ∃ st1, execL tab F57L0 st = some (.normal, st1) ∧ st1.H = H ++ [.row 2 (part (rngV a b) (m + min (W - m) m) W) false] ∧ H.length ≤ st1.low ∧ st1.low ≤ H.length + 1 ∧ lookupE st1.vE 7 = .sref H.length 2 0 W W ∧ lookupE st1.vE 8 = .int .i64 ((m + min (W - m) m : Nat) : Int) := by
        generalize hP : part (rngV a b) m W = P at *
        have hm0 : 0 < m := hm
        refine ⟨_, by simp [F57L0, callBody, zipE, execL_seq, execL_region, execL_cond, execL_skip, execL_ret, execL_exit, execL_block, execOps, wantedA, S_mv, S_pick, S_bin, S_un, S_call0, S_call1, S_extract, S_nilEq, S_load, S_alloc, Opd.ev, lookupE, lookE_setE, St.put, binA, unA, boolOf, freezeVs, freezeV, freeze1, isP, isPs, resultsA, resultA, finish, old, olds, flat, movedH_same, Nat.min_self, loadA, readCells, cellsV_int, h1, l7, l8, S_lenR, isRow, get_off0, set_off0, hpl, hlt, hlt', hle', hm0, S_sliceL, S_copy, step, bnd, elems, htk, hrl, hpp, hmW2, hw, movedH, inOrder, touches, -List.take_replicate]; exact ⟨by decide, rfl⟩, ?_⟩
        refine ⟨?_, by simp; omega, by simp; omega, by simp [lookE_setE, l7], by simp [lookE_setE]⟩
        rw [htk] at hst
        simp [← hst, -List.take_replicate]
      obtain ⟨st1, q1, q2, q3, q4, q5, q6⟩ := hstep
      obtain ⟨st', r1, r2⟩ := ih (W - (m + min (W - m) m)) (by omega) (m + min (W - m) m) st1 (by omega) (by omega) q2 q3 q4 q5 q6
      exact ⟨st', by rw [execL_loop, q1]; exact r1, r2⟩

theorem olds_part (n : Nat) (a b : Int) (m : Nat) : olds n (List.replicate m (rngV a b)) = true := by
  induction m with
  | zero => rfl
  | succ m ih => rw [List.replicate_succ]; simp only [olds, ih, Bool.and_true]; rfl

set_option maxHeartbeats 2000000 in
theorem repeat_s {a b : Int} {W : Nat} (hW : W ≤ 1000) (h1 : 1 ≤ W) (H : Heap) :
    callL tab (.fn 57 [] []) [.list 2 [rngV a b], .int .i64 W] H = some (.sref H.length 2 0 W W, H ++ [.row 2 (List.replicate W (rngV a b)) false], H.length) := by
  have hm := mul_s (W := W) (by omega) H
  unfold Ans at hm
  have hu1 : IntKind.u64.wrap 1 = 1 := wrap_u (by omega) (by omega)
  have hu2 : IntKind.u64.wrap (W : Int) = W := wrap_u (by omega) (by omega)
  have hi : IntKind.i64.wrap (W : Int) = W := by rw [wrap_small] <;> omega
  have hneg : ¬ (W : Int) < 0 := by omega
  have hbig : ¬ (W : Int) > 9223372036854775807 := by omega
  have hbig' : ¬ (9223372036854775807 : Int) < (W : Int) := by omega
  have hcap : (W : Int) * 17 ≤ 1099511627776 := by omega
  have hnz : ¬ (W : Int) = 0 := by omega
  have hnz' : ¬ W = 0 := by omega
  have hnn : (0 : Int) ≤ W := by omega
  have hmin : min W 1 = 1 := by omega
  have hp1 : plainCells (List.flatMap cellsV [rngV a b]) = true := rfl
  have hpart : part (rngV a b) 1 W = rngV a b :: List.replicate (W - 1) zV := rfl
  have hfull : part (rngV a b) W W = List.replicate W (rngV a b) := by simp [part]
  obtain ⟨st', r1, r2, r3, r4⟩ := rep_loop (a := a) (b := b) (W := W) (H := H) hW (W - 1) 1
    { tE := [], vE := [(0, .list 2 [rngV a b]), (1, .int .i64 W), (4, .nil0), (10, .bool false), (5, .int .u64 0), (6, .int .u64 W), (26, .bool false), (7, .sref H.length 2 0 W W), (8, .int .i64 1)], H := H ++ [.row 2 (part (rngV a b) 1 W) false], low := H.length } (by omega) (Nat.le_refl _) rfl (Nat.le_refl _) (by simp) rfl rfl
  rw [hfull] at r2
  have hold := olds_part H.length a b W
  have htk1 : List.take W [rngV a b] = [rngV a b] := List.take_of_length_le (by simpa using h1)
  have hz : V.agg [V.int .i64 0, V.int .i64 0] = zV := rfl
  rw [hpart] at r1
  rw [callL_fn, show tab 57 = some (.code F57) from rfl]
  have hsl : slE 2 (V.list 2 [rngV a b]) = true := rfl
  have hel : (el (V.list 2 [rngV a b])).length = 1 := rfl
  simp [F57, callBody, zipE, execL_seq, execL_region, execL_cond, execL_skip, execL_ret, execL_exit, execL_block, execOps, wantedA, S_mv, S_pick, S_bin, S_un, S_call0, S_call1, S_extract, S_nilEq, S_load, S_alloc, Opd.ev, lookupE, setE, St.put, binA, unA, boolOf, freezeVs, freezeV, freeze1, isP, isPs, resultsA, resultA, finish, old, olds, flat, movedH_same, Nat.min_self, loadA, readCells, cellsV_int, S_len 2, hsl, hel, S_convI, step, hu1, hu2, hi, hm, hneg, hbig, hbig', S_mkSlice, zeroElem, hz, hcap, hnz, hnz', hnn, S_copy, elems, get_off0, set_off0, htk1, hp1, hmin, r1, r2, r3, r4, hold, lookE_setE, -List.flatMap_cons]
  omega
end Go.Abs.T09
