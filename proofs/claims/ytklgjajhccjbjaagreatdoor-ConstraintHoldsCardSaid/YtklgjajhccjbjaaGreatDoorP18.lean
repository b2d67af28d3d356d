/- ConstraintHolds: few terms and a small bound; the cells of a constraint lie in a list. -/
import Derived.Test.YtklgjajhccjbjaaGreatDoorP16
import Derived.Test.YtklgjajhccjbjaaGreatDoorP17
set_option linter.unusedVariables false
set_option linter.unusedSimpArgs false
namespace Go.Abs.T12
open Go Go.Abs Go.Abs.Cyc
set_option linter.unusedSimpArgs false

theorem slE_isP {n : Nat} {v : V} (h : slE n v = true) : isP v = true := by
  cases v <;> first | rfl | (simp [slE] at h; done)

def small9 (b : Int) : Bool := decide (-1000000000 ≤ b) && decide (b ≤ 1000000000)

def F6R0 : List AOper := [⟨some (3, false), .fieldAddr 2 (.var 1), none⟩, ⟨some (4, false), .fieldAddr 0 (.tmp 3), none⟩, ⟨some (5, false), .load none (.tmp 4), none⟩, ⟨some (6, false), .call false (.func 19) [(.tmp 5)], none⟩, ⟨some (7, false), .mv (.tmp 6), none⟩]
def F6R1 : List AOper := [⟨some (8, false), .fieldAddr 2 (.var 1), some ((.tmp 7), true)⟩, ⟨some (9, false), .fieldAddr 1 (.tmp 8), some ((.tmp 7), true)⟩, ⟨some (10, false), .load none (.tmp 9), some ((.tmp 7), true)⟩, ⟨some (11, false), .bin .geq (.tmp 10) (.const (.int .i64 (-1000000000))), some ((.tmp 7), true)⟩, ⟨some (12, false), .pick (.tmp 7) (.tmp 11) (.const (.bool false)), none⟩, ⟨some (13, false), .mv (.tmp 12), none⟩]
def F6R2 : List AOper := [⟨some (14, false), .fieldAddr 2 (.var 1), some ((.tmp 13), true)⟩, ⟨some (15, false), .fieldAddr 1 (.tmp 14), some ((.tmp 13), true)⟩, ⟨some (16, false), .load none (.tmp 15), some ((.tmp 13), true)⟩, ⟨some (17, false), .bin .leq (.tmp 16) (.const (.int .i64 1000000000)), some ((.tmp 13), true)⟩, ⟨some (18, false), .pick (.tmp 13) (.tmp 17) (.const (.bool false)), none⟩, ⟨some (2, true), .mv (.tmp 18), none⟩]
theorem F6_cut : F6 = ⟨19, .seq (.region [⟨some (1, true), .box (.var 0), none⟩, ⟨some (2, true), .mv (.const (.bool false)), none⟩] none) (.seq (.region (F6R0 ++ (F6R1 ++ F6R2)) none) (.ret)), [.tmp 2], false⟩ := rfl

section
variable {call : CallT} {k fam b f s : Int} {t : V} {v0 : V} {v2 : Bool} {tE : Env}
def fEnv (v0 : V) (v2 : Bool) : Env := [(0, v0), (1, .ptr 0 0), (2, .bool v2)]
theorem f1 {x : Bool} (hc : ∀ H, call (.fn 19 [] []) [t] H = some (.bool x, H, H.length)) (htp : isP t = true) : Piece call F6R0 [] (fEnv v0 v2) [.cells (con k fam t b f s)] 0 none 7 (.bool x) := fun wr => by
  refine ⟨_, _, by simp [F6R0, callBody, zipE, execL_seq, execL_region, execL_cond, execL_skip, execL_ret, execL_exit, execL_block, execOps, wantedA, S_mv, S_pick, S_bin, S_un, S_call0, S_call1, S_extract, S_nilEq, S_load, S_alloc, S_box, S_fieldAddr, S_field, Opd.ev, lookupE, lookE_setE, St.put, binA, unA, boolOf, freezeVs, freezeV, freezeD, isP, isPs, resultsA, resultA, finish, old, olds, flat, movedH_same, Nat.min_self, loadA, readCells, cellsV_int, cO_int, cO_bool, cO_str, cO_list, cO_sref, cO_nil0, cO_emp, cellsOk, con, fEnv, hc, htp]; exact ⟨rfl, rfl⟩, by simp [lookupE]⟩
theorem f2 {x : Bool} (h : lookupE tE 7 = .bool x) : Piece call F6R1 tE (fEnv v0 v2) [.cells (con k fam t b f s)] 0 none 13 (.bool (x && decide (-1000000000 ≤ b))) := fun wr => by
  cases x
  · exact ⟨_, _, by simp [F6R1, callBody, zipE, execL_seq, execL_region, execL_cond, execL_skip, execL_ret, execL_exit, execL_block, execOps, wantedA, S_mv, S_pick, S_bin, S_un, S_call0, S_call1, S_extract, S_nilEq, S_load, S_alloc, S_box, S_fieldAddr, S_field, Opd.ev, lookupE, lookE_setE, St.put, binA, unA, boolOf, freezeVs, freezeV, freezeD, isP, isPs, resultsA, resultA, finish, old, olds, flat, movedH_same, Nat.min_self, loadA, readCells, cellsV_int, cO_int, cO_bool, cO_str, cO_list, cO_sref, cO_nil0, cO_emp, cellsOk, con, fEnv, h]; exact ⟨rfl, rfl⟩, by simp [lookupE]⟩
  · exact ⟨_, _, by simp [F6R1, callBody, zipE, execL_seq, execL_region, execL_cond, execL_skip, execL_ret, execL_exit, execL_block, execOps, wantedA, S_mv, S_pick, S_bin, S_un, S_call0, S_call1, S_extract, S_nilEq, S_load, S_alloc, S_box, S_fieldAddr, S_field, Opd.ev, lookupE, lookE_setE, St.put, binA, unA, boolOf, freezeVs, freezeV, freezeD, isP, isPs, resultsA, resultA, finish, old, olds, flat, movedH_same, Nat.min_self, loadA, readCells, cellsV_int, cO_int, cO_bool, cO_str, cO_list, cO_sref, cO_nil0, cO_emp, cellsOk, con, fEnv, h]; exact ⟨rfl, rfl⟩, by simp [lookupE]⟩
theorem f3 {x : Bool} (h : lookupE tE 13 = .bool x) (wr : List Bool) :
    ∃ tE' wr', execOps call F6R2 ⟨tE, fEnv v0 v2, [.cells (con k fam t b f s)], 0, none⟩ wr = some (⟨tE', fEnv v0 (x && decide (b ≤ 1000000000)), [.cells (con k fam t b f s)], 0, none⟩, wr') := by
  cases x
  · exact ⟨_, _, by simp [F6R2, callBody, zipE, execL_seq, execL_region, execL_cond, execL_skip, execL_ret, execL_exit, execL_block, execOps, wantedA, S_mv, S_pick, S_bin, S_un, S_call0, S_call1, S_extract, S_nilEq, S_load, S_alloc, S_box, S_fieldAddr, S_field, Opd.ev, lookupE, lookE_setE, St.put, binA, unA, boolOf, freezeVs, freezeV, freezeD, isP, isPs, resultsA, resultA, finish, old, olds, flat, movedH_same, Nat.min_self, loadA, readCells, cellsV_int, cO_int, cO_bool, cO_str, cO_list, cO_sref, cO_nil0, cO_emp, cellsOk, setE, con, fEnv, h]; exact ⟨rfl, rfl⟩⟩
  · exact ⟨_, _, by simp [F6R2, callBody, zipE, execL_seq, execL_region, execL_cond, execL_skip, execL_ret, execL_exit, execL_block, execOps, wantedA, S_mv, S_pick, S_bin, S_un, S_call0, S_call1, S_extract, S_nilEq, S_load, S_alloc, S_box, S_fieldAddr, S_field, Opd.ev, lookupE, lookE_setE, St.put, binA, unA, boolOf, freezeVs, freezeV, freezeD, isP, isPs, resultsA, resultA, finish, old, olds, flat, movedH_same, Nat.min_self, loadA, readCells, cellsV_int, cO_int, cO_bool, cO_str, cO_list, cO_sref, cO_nil0, cO_emp, cellsOk, setE, con, fEnv, h]; exact ⟨rfl, rfl⟩⟩
end

structure Th1 (tab : Nat → Option Fun) : Prop where
  h19 : ∃ spec, tab 19 = some (.ext spec) ∧ ∀ (tv : V) (l : List (Int × Int)), VT tv l → spec [tv] = some (.bool (fewB l))

theorem few_s {tab : Nat → Option Fun} (T : Th1 tab) (h6 : tab 6 = some (.code F6)) {k fam b f s : Int} {tv : V} {l : List (Int × Int)} (h : VT tv l) :
    callL tab (.fn 6 [] []) [.agg (con k fam tv b f s)] [] = some (.bool (fewB l && small9 b), [], 0) := by
  obtain ⟨spec, hspec, hs⟩ := T.h19
  have hcall : ∀ H, callL tab (.fn 19 [] []) [tv] H = some (.bool (fewB l), H, H.length) := fun H => callL_word hspec (by simp [isPs, slE_isP h.sl]) (hs tv l h) H
  rw [callL_fn, h6, F6_cut]
  have hp := f1 (call := callL tab) (k := k) (fam := fam) (b := b) (f := f) (s := s) (v0 := .agg (con k fam tv b f s)) (v2 := false) hcall (slE_isP h.sl) |>.app (fun _ h => f2 h)
  obtain ⟨tE1, wr1, e1, l1⟩ := hp []
  obtain ⟨tE2, wr2, e2⟩ := f3 (call := callL tab) (k := k) (fam := fam) (b := b) (f := f) (s := s) (t := tv) (v0 := .agg (con k fam tv b f s)) (v2 := false) l1 wr1.reverse
  have key : execL tab (.region (F6R0 ++ (F6R1 ++ F6R2)) none) ⟨[], fEnv (.agg (con k fam tv b f s)) false, [.cells (con k fam tv b f s)], 0, none⟩ = some (.normal, ⟨[], fEnv (.agg (con k fam tv b f s)) (fewB l && small9 b), [.cells (con k fam tv b f s)], 0, none⟩) := by
    rw [execL_region]
    have : execOps (callL tab) (F6R0 ++ (F6R1 ++ F6R2)) ⟨[], fEnv (.agg (con k fam tv b f s)) false, [.cells (con k fam tv b f s)], 0, none⟩ [] = some (⟨tE2, fEnv (.agg (con k fam tv b f s)) (fewB l && small9 b), [.cells (con k fam tv b f s)], 0, none⟩, wr2) := by
      rw [← List.append_assoc, execOps_app, e1]
      rw [Bool.and_assoc] at e2
      exact e2
    simp only [this]
  unfold fEnv at key
  generalize (ACode.region (F6R0 ++ (F6R1 ++ F6R2)) none) = R at *
  have hc : cellsOk (con k fam tv b f s) = true := con_ok (slE_cellOk h.sl)
  simp [callBody, zipE, execL_seq, execL_region, execL_cond, execL_skip, execL_ret, execL_exit, execL_block, execOps, wantedA, S_mv, S_pick, S_bin, S_un, S_call0, S_call1, S_extract, S_nilEq, S_load, S_alloc, S_box, S_fieldAddr, S_field, Opd.ev, lookupE, lookE_setE, St.put, binA, unA, boolOf, freezeVs, freezeV, freezeD, isP, isPs, resultsA, resultA, finish, old, olds, flat, movedH_same, Nat.min_self, loadA, readCells, cellsV_int, cO_int, cO_bool, cO_str, cO_list, cO_sref, cO_nil0, cO_emp, cellsOk, setE, hc, cellsV, key]

def F22P0 : ACode := .region [⟨some (2, true), .box (.var 0), none⟩, ⟨some (4, true), .mv (.const (.bool false)), none⟩] none
def F22P1 : ACode := .seq (.region [⟨some (6, false), .fieldAddr 0 (.var 2), none⟩, ⟨some (7, false), .load none (.tmp 6), none⟩, ⟨some (8, true), .bin .eql (.tmp 7) (.const (.int .i64 1)), none⟩] none) (.cond (.var 8) (.seq (.region [⟨some (9, false), .fieldAddr 5 (.var 2), none⟩, ⟨some (10, false), .load none (.tmp 9), none⟩, ⟨some (11, false), .bin .geq (.tmp 10) (.const (.int .i64 1)), none⟩, ⟨some (12, false), .mv (.tmp 11), none⟩, ⟨some (13, false), .fieldAddr 5 (.var 2), some ((.tmp 12), true)⟩, ⟨some (14, false), .load none (.tmp 13), some ((.tmp 12), true)⟩, ⟨some (15, false), .bin .leq (.tmp 14) (.const (.int .i64 6)), some ((.tmp 12), true)⟩, ⟨some (16, false), .pick (.tmp 12) (.tmp 15) (.const (.bool false)), none⟩, ⟨some (17, false), .mv (.tmp 16), none⟩, ⟨some (18, false), .fieldAddr 4 (.var 2), some ((.tmp 17), true)⟩, ⟨some (19, false), .load none (.tmp 18), some ((.tmp 17), true)⟩, ⟨some (20, false), .bin .geq (.tmp 19) (.const (.int .i64 0)), some ((.tmp 17), true)⟩, ⟨some (21, false), .pick (.tmp 17) (.tmp 20) (.const (.bool false)), none⟩, ⟨some (22, false), .mv (.tmp 21), none⟩, ⟨some (23, false), .fieldAddr 4 (.var 2), some ((.tmp 22), true)⟩, ⟨some (24, false), .load none (.tmp 23), some ((.tmp 22), true)⟩, ⟨some (25, false), .mv (.var 1), some ((.tmp 22), true)⟩, ⟨some (26, false), .fieldAddr 5 (.var 2), some ((.tmp 22), true)⟩, ⟨some (27, false), .load none (.tmp 26), some ((.tmp 22), true)⟩, ⟨some (28, false), .fieldAddr 5 (.var 2), some ((.tmp 22), true)⟩, ⟨some (29, false), .load none (.tmp 28), some ((.tmp 22), true)⟩, ⟨some (30, false), .bin .mul (.tmp 27) (.tmp 29), some ((.tmp 22), true)⟩, ⟨some (31, false), .bin .sub (.tmp 25) (.tmp 30), some ((.tmp 22), true)⟩, ⟨some (32, false), .bin .leq (.tmp 24) (.tmp 31), some ((.tmp 22), true)⟩, ⟨some (33, false), .pick (.tmp 22) (.tmp 32) (.const (.bool false)), none⟩, ⟨some (4, true), .mv (.tmp 33), none⟩] none) (.ret)) (.skip))
def F22P2 : ACode := .seq (.region [⟨some (5, true), .mv (.const (.int .i64 0)), none⟩] none) (.block 0 (.loop F22L0))
def F22P3 : ACode := .region [⟨some (61, false), .fieldAddr 0 (.var 2), none⟩, ⟨some (62, false), .load none (.tmp 61), none⟩, ⟨some (63, false), .bin .eql (.tmp 62) (.const (.int .i64 0)), none⟩, ⟨some (4, true), .mv (.tmp 63), none⟩] none
def F22P4 : ACode := .ret
theorem F22_seq : F22 = ⟨64, .seq F22P0 (.seq F22P1 (.seq F22P2 (.seq F22P3 F22P4))), [.tmp 4], false⟩ := rfl
def F22P1R0 : List AOper := [⟨some (9, false), .fieldAddr 5 (.var 2), none⟩, ⟨some (10, false), .load none (.tmp 9), none⟩, ⟨some (11, false), .bin .geq (.tmp 10) (.const (.int .i64 1)), none⟩, ⟨some (12, false), .mv (.tmp 11), none⟩]
def F22P1R1 : List AOper := [⟨some (13, false), .fieldAddr 5 (.var 2), some ((.tmp 12), true)⟩, ⟨some (14, false), .load none (.tmp 13), some ((.tmp 12), true)⟩, ⟨some (15, false), .bin .leq (.tmp 14) (.const (.int .i64 6)), some ((.tmp 12), true)⟩, ⟨some (16, false), .pick (.tmp 12) (.tmp 15) (.const (.bool false)), none⟩, ⟨some (17, false), .mv (.tmp 16), none⟩]
def F22P1R2 : List AOper := [⟨some (18, false), .fieldAddr 4 (.var 2), some ((.tmp 17), true)⟩, ⟨some (19, false), .load none (.tmp 18), some ((.tmp 17), true)⟩, ⟨some (20, false), .bin .geq (.tmp 19) (.const (.int .i64 0)), some ((.tmp 17), true)⟩, ⟨some (21, false), .pick (.tmp 17) (.tmp 20) (.const (.bool false)), none⟩, ⟨some (22, false), .mv (.tmp 21), none⟩]
def F22P1R3 : List AOper := [⟨some (23, false), .fieldAddr 4 (.var 2), some ((.tmp 22), true)⟩, ⟨some (24, false), .load none (.tmp 23), some ((.tmp 22), true)⟩, ⟨some (25, false), .mv (.var 1), some ((.tmp 22), true)⟩, ⟨some (26, false), .fieldAddr 5 (.var 2), some ((.tmp 22), true)⟩, ⟨some (27, false), .load none (.tmp 26), some ((.tmp 22), true)⟩, ⟨some (28, false), .fieldAddr 5 (.var 2), some ((.tmp 22), true)⟩, ⟨some (29, false), .load none (.tmp 28), some ((.tmp 22), true)⟩, ⟨some (30, false), .bin .mul (.tmp 27) (.tmp 29), some ((.tmp 22), true)⟩, ⟨some (31, false), .bin .sub (.tmp 25) (.tmp 30), some ((.tmp 22), true)⟩, ⟨some (32, false), .bin .leq (.tmp 24) (.tmp 31), some ((.tmp 22), true)⟩, ⟨some (33, false), .pick (.tmp 22) (.tmp 32) (.const (.bool false)), none⟩, ⟨some (4, true), .mv (.tmp 33), none⟩]
theorem F22P1_cut : F22P1 = .seq (.region [⟨some (6, false), .fieldAddr 0 (.var 2), none⟩, ⟨some (7, false), .load none (.tmp 6), none⟩, ⟨some (8, true), .bin .eql (.tmp 7) (.const (.int .i64 1)), none⟩] none) (.cond (.var 8) (.seq (.region (F22P1R0 ++ (F22P1R1 ++ (F22P1R2 ++ F22P1R3))) none) (.ret)) (.skip)) := rfl
def F22B : ACode := .seq (.region [⟨some (42, false), .fieldAddr 2 (.var 2), none⟩, ⟨some (43, false), .fieldAddr 0 (.tmp 42), none⟩, ⟨some (44, false), .load none (.tmp 43), none⟩, ⟨some (45, false), .mv (.var 5), none⟩, ⟨some (46, false), .indexAddr 2 (.tmp 44) (.tmp 45), none⟩, ⟨some (47, false), .fieldAddr 0 (.tmp 46), none⟩, ⟨some (48, false), .load none (.tmp 47), none⟩, ⟨some (49, false), .bin .lss (.tmp 48) (.const (.int .i64 0)), none⟩, ⟨some (50, false), .mv (.tmp 49), none⟩, ⟨some (51, false), .fieldAddr 2 (.var 2), some ((.tmp 50), false)⟩, ⟨some (52, false), .fieldAddr 0 (.tmp 51), some ((.tmp 50), false)⟩, ⟨some (53, false), .load none (.tmp 52), some ((.tmp 50), false)⟩, ⟨some (54, false), .mv (.var 5), some ((.tmp 50), false)⟩, ⟨some (55, false), .indexAddr 2 (.tmp 53) (.tmp 54), some ((.tmp 50), false)⟩, ⟨some (56, false), .fieldAddr 0 (.tmp 55), some ((.tmp 50), false)⟩, ⟨some (57, false), .load none (.tmp 56), some ((.tmp 50), false)⟩, ⟨some (58, false), .mv (.var 1), some ((.tmp 50), false)⟩, ⟨some (59, false), .bin .geq (.tmp 57) (.tmp 58), some ((.tmp 50), false)⟩, ⟨some (60, true), .pick (.tmp 50) (.const (.bool true)) (.tmp 59), none⟩] none) (.cond (.var 60) (.seq (.region [⟨some (4, true), .mv (.const (.bool false)), none⟩] none) (.ret)) (.skip))
theorem F22B_for : F22L0 = .seq (.seq (.region [⟨some (34, false), .mv (.var 5), none⟩, ⟨some (35, false), .fieldAddr 2 (.var 2), none⟩, ⟨some (36, false), .fieldAddr 0 (.tmp 35), none⟩, ⟨some (37, false), .load none (.tmp 36), none⟩, ⟨some (38, false), .len 1 (.tmp 37), none⟩, ⟨some (39, true), .bin .lss (.tmp 34) (.tmp 38), none⟩] none) (.cond (.var 39) (.skip) (.exit 0))) (.seq (.block 1 F22B) (.region [⟨some (40, false), .mv (.var 5), none⟩, ⟨some (41, false), .bin .add (.tmp 40) (.const (.int .i64 1)), none⟩, ⟨some (5, true), .mv (.tmp 41), none⟩] none)) := rfl

section
variable {call : CallT} {k fam b f s : Int} {t : V} {n : Nat} {v0 : V} {v4 v8 : V} {tE : Env}
def iEnv (v0 : V) (n : Nat) (v4 v8 : V) : Env := [(0, v0), (1, .int .i64 n), (2, .ptr 0 0), (4, v4), (8, v8)]

theorem i1 : Piece call F22P1R0 [] (iEnv v0 n v4 v8) [.cells (con k fam t b f s)] 0 none 12 (.bool (decide (1 ≤ s))) := fun wr => by
  refine ⟨_, _, by simp [F22P1R0, callBody, zipE, execL_seq, execL_region, execL_cond, execL_skip, execL_ret, execL_exit, execL_block, execOps, wantedA, S_mv, S_pick, S_bin, S_un, S_call0, S_call1, S_extract, S_nilEq, S_load, S_alloc, S_box, S_fieldAddr, S_field, Opd.ev, lookupE, lookE_setE, St.put, binA, unA, boolOf, freezeVs, freezeV, freezeD, isP, isPs, resultsA, resultA, finish, old, olds, flat, movedH_same, Nat.min_self, loadA, readCells, cellsV_int, cO_int, cO_bool, cO_str, cO_list, cO_sref, cO_nil0, cO_emp, cellsOk, con, iEnv]; exact ⟨rfl, rfl⟩, by simp [lookupE]⟩
theorem i2 {x : Bool} (h : lookupE tE 12 = .bool x) : Piece call F22P1R1 tE (iEnv v0 n v4 v8) [.cells (con k fam t b f s)] 0 none 17 (.bool (x && decide (s ≤ 6))) := fun wr => by
  cases x
  · exact ⟨_, _, by simp [F22P1R1, callBody, zipE, execL_seq, execL_region, execL_cond, execL_skip, execL_ret, execL_exit, execL_block, execOps, wantedA, S_mv, S_pick, S_bin, S_un, S_call0, S_call1, S_extract, S_nilEq, S_load, S_alloc, S_box, S_fieldAddr, S_field, Opd.ev, lookupE, lookE_setE, St.put, binA, unA, boolOf, freezeVs, freezeV, freezeD, isP, isPs, resultsA, resultA, finish, old, olds, flat, movedH_same, Nat.min_self, loadA, readCells, cellsV_int, cO_int, cO_bool, cO_str, cO_list, cO_sref, cO_nil0, cO_emp, cellsOk, con, iEnv, h]; exact ⟨rfl, rfl⟩, by simp [lookupE]⟩
  · exact ⟨_, _, by simp [F22P1R1, callBody, zipE, execL_seq, execL_region, execL_cond, execL_skip, execL_ret, execL_exit, execL_block, execOps, wantedA, S_mv, S_pick, S_bin, S_un, S_call0, S_call1, S_extract, S_nilEq, S_load, S_alloc, S_box, S_fieldAddr, S_field, Opd.ev, lookupE, lookE_setE, St.put, binA, unA, boolOf, freezeVs, freezeV, freezeD, isP, isPs, resultsA, resultA, finish, old, olds, flat, movedH_same, Nat.min_self, loadA, readCells, cellsV_int, cO_int, cO_bool, cO_str, cO_list, cO_sref, cO_nil0, cO_emp, cellsOk, con, iEnv, h]; exact ⟨rfl, rfl⟩, by simp [lookupE]⟩
theorem i3 {x : Bool} (h : lookupE tE 17 = .bool x) : Piece call F22P1R2 tE (iEnv v0 n v4 v8) [.cells (con k fam t b f s)] 0 none 22 (.bool (x && decide (0 ≤ f))) := fun wr => by
  cases x
  · exact ⟨_, _, by simp [F22P1R2, callBody, zipE, execL_seq, execL_region, execL_cond, execL_skip, execL_ret, execL_exit, execL_block, execOps, wantedA, S_mv, S_pick, S_bin, S_un, S_call0, S_call1, S_extract, S_nilEq, S_load, S_alloc, S_box, S_fieldAddr, S_field, Opd.ev, lookupE, lookE_setE, St.put, binA, unA, boolOf, freezeVs, freezeV, freezeD, isP, isPs, resultsA, resultA, finish, old, olds, flat, movedH_same, Nat.min_self, loadA, readCells, cellsV_int, cO_int, cO_bool, cO_str, cO_list, cO_sref, cO_nil0, cO_emp, cellsOk, con, iEnv, h]; exact ⟨rfl, rfl⟩, by simp [lookupE]⟩
  · exact ⟨_, _, by simp [F22P1R2, callBody, zipE, execL_seq, execL_region, execL_cond, execL_skip, execL_ret, execL_exit, execL_block, execOps, wantedA, S_mv, S_pick, S_bin, S_un, S_call0, S_call1, S_extract, S_nilEq, S_load, S_alloc, S_box, S_fieldAddr, S_field, Opd.ev, lookupE, lookE_setE, St.put, binA, unA, boolOf, freezeVs, freezeV, freezeD, isP, isPs, resultsA, resultA, finish, old, olds, flat, movedH_same, Nat.min_self, loadA, readCells, cellsV_int, cO_int, cO_bool, cO_str, cO_list, cO_sref, cO_nil0, cO_emp, cellsOk, con, iEnv, h]; exact ⟨rfl, rfl⟩, by simp [lookupE]⟩
theorem i4 {x : Bool} (h : lookupE tE 22 = .bool x) (hx : x = true → IntKind.i64.wrap (s * s) = s * s ∧ IntKind.i64.wrap ((n : Int) - s * s) = (n : Int) - s * s) (wr : List Bool) :
    ∃ tE' wr', execOps call F22P1R3 ⟨tE, iEnv v0 n v4 v8, [.cells (con k fam t b f s)], 0, none⟩ wr = some (⟨tE', iEnv v0 n (.bool (x && decide (f ≤ (n : Int) - s * s))) v8, [.cells (con k fam t b f s)], 0, none⟩, wr') := by
  cases x
  · exact ⟨_, _, by simp [F22P1R3, callBody, zipE, execL_seq, execL_region, execL_cond, execL_skip, execL_ret, execL_exit, execL_block, execOps, wantedA, S_mv, S_pick, S_bin, S_un, S_call0, S_call1, S_extract, S_nilEq, S_load, S_alloc, S_box, S_fieldAddr, S_field, Opd.ev, lookupE, lookE_setE, St.put, binA, unA, boolOf, freezeVs, freezeV, freezeD, isP, isPs, resultsA, resultA, finish, old, olds, flat, movedH_same, Nat.min_self, loadA, readCells, cellsV_int, cO_int, cO_bool, cO_str, cO_list, cO_sref, cO_nil0, cO_emp, cellsOk, setE, con, iEnv, h]; exact ⟨rfl, rfl⟩⟩
  · obtain ⟨h1, h2⟩ := hx rfl
    exact ⟨_, _, by simp [F22P1R3, callBody, zipE, execL_seq, execL_region, execL_cond, execL_skip, execL_ret, execL_exit, execL_block, execOps, wantedA, S_mv, S_pick, S_bin, S_un, S_call0, S_call1, S_extract, S_nilEq, S_load, S_alloc, S_box, S_fieldAddr, S_field, Opd.ev, lookupE, lookE_setE, St.put, binA, unA, boolOf, freezeVs, freezeV, freezeD, isP, isPs, resultsA, resultA, finish, old, olds, flat, movedH_same, Nat.min_self, loadA, readCells, cellsV_int, cO_int, cO_bool, cO_str, cO_list, cO_sref, cO_nil0, cO_emp, cellsOk, setE, con, iEnv, h, h1, h2]; exact ⟨rfl, rfl⟩⟩
end

theorem inside_a {tab : Nat → Option Fun} (h22 : tab 22 = some (.code F22)) {fam b f s : Int} {t : V} (ht : cellOk t = true) {n : Nat} (hn : n < 4611686018427387904) :
    callL tab (.fn 22 [] []) [.agg (con 1 fam t b f s), .int .i64 n] [] = some (.bool (graphB 1 f s n), [], 0) := by
  rw [callL_fn, h22, F22_seq]
  have hp := i1 (call := callL tab) (k := 1) (fam := fam) (b := b) (f := f) (s := s) (t := t) (n := n) (v0 := .agg (con 1 fam t b f s)) (v4 := .bool false) (v8 := .bool true) |>.app (fun _ h => i2 h) |>.app (fun _ h => i3 h)
  obtain ⟨tE1, wr1, e1, l1⟩ := hp []
  obtain ⟨tE2, wr2, e2⟩ := i4 (call := callL tab) (k := 1) (fam := fam) (b := b) (f := f) (s := s) (t := t) (n := n) (v0 := .agg (con 1 fam t b f s)) (v4 := .bool false) (v8 := .bool true) l1 (fun hx => by
    simp only [Bool.and_eq_true, decide_eq_true_eq] at hx
    obtain ⟨⟨h2, h3⟩, h4⟩ := hx
    have h5 : s = 1 ∨ s = 2 ∨ s = 3 ∨ s = 4 ∨ s = 5 ∨ s = 6 := by omega
    have hb : 1 ≤ s * s ∧ s * s ≤ 36 := by rcases h5 with rfl | rfl | rfl | rfl | rfl | rfl <;> decide
    refine ⟨?_, ?_⟩
    · rcases h5 with rfl | rfl | rfl | rfl | rfl | rfl <;> rfl
    · rw [wrap_small] <;> omega) wr1.reverse
  have hgr : ((decide (1 ≤ s) && decide (s ≤ 6)) && decide (0 ≤ f) && decide (f ≤ (n : Int) - s * s)) = graphB 1 f s n := by simp [graphB]
  have key : execL tab (.region (F22P1R0 ++ (F22P1R1 ++ (F22P1R2 ++ F22P1R3))) none) ⟨[], iEnv (.agg (con 1 fam t b f s)) n (.bool false) (.bool true), [.cells (con 1 fam t b f s)], 0, none⟩ = some (.normal, ⟨[], iEnv (.agg (con 1 fam t b f s)) n (.bool (graphB 1 f s n)) (.bool true), [.cells (con 1 fam t b f s)], 0, none⟩) := by
    rw [execL_region]
    have : execOps (callL tab) (F22P1R0 ++ (F22P1R1 ++ (F22P1R2 ++ F22P1R3))) ⟨[], iEnv (.agg (con 1 fam t b f s)) n (.bool false) (.bool true), [.cells (con 1 fam t b f s)], 0, none⟩ [] = some (⟨tE2, iEnv (.agg (con 1 fam t b f s)) n (.bool (graphB 1 f s n)) (.bool true), [.cells (con 1 fam t b f s)], 0, none⟩, wr2) := by
      rw [← List.append_assoc, ← List.append_assoc, execOps_app, e1, ← hgr]
      exact e2
    simp only [this]
  unfold iEnv at key
  rw [F22P1_cut]
  generalize (ACode.region (F22P1R0 ++ (F22P1R1 ++ (F22P1R2 ++ F22P1R3))) none) = R at *
  have hc : cellsOk (con 1 fam t b f s) = true := con_ok ht
  generalize F22P2 = R2
  generalize F22P3 = R3
  generalize F22P4 = R4
  have hc0 : ∀ h : 0 < (con 1 fam t b f s).length, (con 1 fam t b f s)[0]'h = .int .i64 1 := fun _ => rfl
  have hl6 : (con 1 fam t b f s).length = 6 := rfl
  simp [F22P0, callBody, zipE, execL_seq, execL_region, execL_cond, execL_skip, execL_ret, execL_exit, execL_block, execOps, wantedA, S_mv, S_pick, S_bin, S_un, S_call0, S_call1, S_extract, S_nilEq, S_load, S_alloc, S_box, S_fieldAddr, S_field, Opd.ev, lookupE, lookE_setE, St.put, binA, unA, boolOf, freezeVs, freezeV, freezeD, isP, isPs, resultsA, resultA, finish, old, olds, flat, movedH_same, Nat.min_self, loadA, readCells, cellsV_int, cO_int, cO_bool, cO_str, cO_list, cO_sref, cO_nil0, cO_emp, cellsOk, setE, hc, cellsV, key, hc0, hl6]

def inB (l : List (Int × Int)) (n : Nat) : Bool := l.all fun p => decide (0 ≤ p.1) && decide (p.1 < n)

theorem con_len {k fam b f s : Int} {t : V} : (con k fam t b f s).length = 6 := rfl
theorem con_g0 {k fam b f s : Int} {t : V} : (con k fam t b f s)[0]? = some (.int .i64 k) := rfl
theorem con_g2 {k fam b f s : Int} {t : V} : (con k fam t b f s)[2]? = some t := rfl
theorem con_g3 {k fam b f s : Int} {t : V} : (con k fam t b f s)[3]? = some (.int .i64 b) := rfl
theorem con_g4 {k fam b f s : Int} {t : V} : (con k fam t b f s)[4]? = some (.int .i64 f) := rfl
theorem con_g5 {k fam b f s : Int} {t : V} : (con k fam t b f s)[5]? = some (.int .i64 s) := rfl
theorem con_get0 {k fam b f s : Int} {t : V} : ∀ h : 0 < (con k fam t b f s).length, (con k fam t b f s)[0]'h = .int .i64 k := fun _ => rfl
theorem con_get2 {k fam b f s : Int} {t : V} : ∀ h : 2 < (con k fam t b f s).length, (con k fam t b f s)[2]'h = t := fun _ => rfl
theorem con_get3 {k fam b f s : Int} {t : V} : ∀ h : 3 < (con k fam t b f s).length, (con k fam t b f s)[3]'h = .int .i64 b := fun _ => rfl
theorem con_get4 {k fam b f s : Int} {t : V} : ∀ h : 4 < (con k fam t b f s).length, (con k fam t b f s)[4]'h = .int .i64 f := fun _ => rfl
theorem con_get5 {k fam b f s : Int} {t : V} : ∀ h : 5 < (con k fam t b f s).length, (con k fam t b f s)[5]'h = .int .i64 s := fun _ => rfl

set_option maxHeartbeats 4000000 in
theorem inside_loop {tab : Nat → Option Fun} {k fam b f s : Int} {tv : V} {l : List (Int × Int)} (h : VT tv l) {n : Nat} {v0 : V} :
    ∃ x st', execL tab (.loop F22L0) ⟨[], [(0, v0), (1, .int .i64 n), (2, .ptr 0 0), (4, .bool false), (8, .bool false), (5, .int .i64 0)], [.cells (con k fam tv b f s)], 0, none⟩ = some (x, st') ∧
      st'.low = 0 ∧ st'.H = [.cells (con k fam tv b f s)] ∧ lookupE st'.vE 2 = .ptr 0 0 ∧ ((x = .exit 0 ∧ inB l n = true) ∨ (x = .ret ∧ inB l n = false ∧ lookupE st'.vE 4 = .bool false)) := by
  have hco : cellsOk (con k fam tv b f s) = true := con_ok (slE_cellOk h.sl)
  have hcell : cellOk tv = true := slE_cellOk h.sl
  refine while_loop (tab := tab) (c := F22L0) (N := l.length)
    (I := fun i st => st.tE = [] ∧ st.H = [.cells (con k fam tv b f s)] ∧ st.low = 0 ∧ lookupE st.vE 1 = .int .i64 n ∧ lookupE st.vE 2 = .ptr 0 0 ∧ lookupE st.vE 5 = .int .i64 i ∧ inB (l.take i) n = true)
    (Q := fun x st => st.low = 0 ∧ st.H = [.cells (con k fam tv b f s)] ∧ lookupE st.vE 2 = .ptr 0 0 ∧ ((x = .exit 0 ∧ inB l n = true) ∨ (x = .ret ∧ inB l n = false ∧ lookupE st.vE 4 = .bool false)))
    (fun i st hi hI => ?_) (fun st hI => ?_) l.length 0 _ (by omega) ⟨rfl, rfl, rfl, rfl, rfl, rfl, rfl⟩
  · obtain ⟨e0, e1, e2, l1, l2, l5, hn⟩ := hI
    obtain ⟨tE, vE, H, low, ro⟩ := st
    simp only at e0 e1 e2 l1 l2 l5
    subst e0; subst e1; subst e2
    have hx : l[i]? = some l[i] := by simp
    have hg := h.get hx
    have hil : (i : Int) < (l.length : Int) := by omega
    have hlt := h.lt
    have hwi : IntKind.i64.wrap ((i : Int) + 1) = (i : Int) + 1 := by rw [wrap_small] <;> omega
    have hbody : ∀ bb : Bool, (decide (l[i].1 < 0) || decide ((n : Int) ≤ l[i].1)) = bb → execL tab F22B ⟨[], setE vE 39 (.bool true), [.cells (con k fam tv b f s)], 0, ro⟩ = some (if bb then .ret else .normal, ⟨[], if bb then setE (setE (setE vE 39 (.bool true)) 60 (.bool true)) 4 (.bool false) else setE (setE vE 39 (.bool true)) 60 (.bool false), [.cells (con k fam tv b f s)], 0, ro⟩) := fun bb hbb => by
      by_cases hneg : l[i].1 < 0
      · have : bb = true := by simpa [hneg] using hbb.symm
        subst this
        simp [F22B, callBody, zipE, execL_seq, execL_region, execL_cond, execL_skip, execL_ret, execL_exit, execL_block, execOps, wantedA, S_mv, S_pick, S_bin, S_un, S_call0, S_call1, S_extract, S_nilEq, S_load, S_alloc, S_box, S_fieldAddr, S_field, Opd.ev, lookupE, lookE_setE, St.put, binA, unA, boolOf, freezeVs, freezeV, freezeD, isP, isPs, resultsA, resultA, finish, old, olds, flat, movedH_same, Nat.min_self, loadA, readCells, cellsV_int, cO_int, cO_bool, cO_str, cO_list, cO_sref, cO_nil0, cO_emp, cellsOk, con_len, con_g2, S_index, h.sl, hg, l1, l2, l5, cellsV_tm, hneg]
      · by_cases hbig : (n : Int) ≤ l[i].1
        · have : bb = true := by simpa [hbig] using hbb.symm
          subst this
          simp [F22B, callBody, zipE, execL_seq, execL_region, execL_cond, execL_skip, execL_ret, execL_exit, execL_block, execOps, wantedA, S_mv, S_pick, S_bin, S_un, S_call0, S_call1, S_extract, S_nilEq, S_load, S_alloc, S_box, S_fieldAddr, S_field, Opd.ev, lookupE, lookE_setE, St.put, binA, unA, boolOf, freezeVs, freezeV, freezeD, isP, isPs, resultsA, resultA, finish, old, olds, flat, movedH_same, Nat.min_self, loadA, readCells, cellsV_int, cO_int, cO_bool, cO_str, cO_list, cO_sref, cO_nil0, cO_emp, cellsOk, con_len, con_g2, S_index, h.sl, hg, l1, l2, l5, cellsV_tm, hneg, hbig]
        · have : bb = false := by simpa [hneg, hbig] using hbb.symm
          subst this
          simp [F22B, callBody, zipE, execL_seq, execL_region, execL_cond, execL_skip, execL_ret, execL_exit, execL_block, execOps, wantedA, S_mv, S_pick, S_bin, S_un, S_call0, S_call1, S_extract, S_nilEq, S_load, S_alloc, S_box, S_fieldAddr, S_field, Opd.ev, lookupE, lookE_setE, St.put, binA, unA, boolOf, freezeVs, freezeV, freezeD, isP, isPs, resultsA, resultA, finish, old, olds, flat, movedH_same, Nat.min_self, loadA, readCells, cellsV_int, cO_int, cO_bool, cO_str, cO_list, cO_sref, cO_nil0, cO_emp, cellsOk, con_len, con_g2, S_index, h.sl, hg, l1, l2, l5, cellsV_tm, hneg, hbig]
    rw [F22B_for]
    generalize F22B = BB at hbody ⊢
    cases hbb : (decide (l[i].1 < 0) || decide ((n : Int) ≤ l[i].1)) with
    | true =>
      have hb := hbody true hbb
      refine ⟨.ret, ⟨[], setE (setE (setE vE 39 (.bool true)) 60 (.bool true)) 4 (.bool false), [.cells (con k fam tv b f s)], 0, ro⟩, ?_, ?_⟩
      · simp [callBody, zipE, execL_seq, execL_region, execL_cond, execL_skip, execL_ret, execL_exit, execL_block, execOps, wantedA, S_mv, S_pick, S_bin, S_un, S_call0, S_call1, S_extract, S_nilEq, S_load, S_alloc, S_box, S_fieldAddr, S_field, Opd.ev, lookupE, lookE_setE, St.put, binA, unA, boolOf, freezeVs, freezeV, freezeD, isP, isPs, resultsA, resultA, finish, old, olds, flat, movedH_same, Nat.min_self, loadA, readCells, cellsV_int, cO_int, cO_bool, cO_str, cO_list, cO_sref, cO_nil0, cO_emp, cellsOk, con_len, con_g2, S_len 2, h.sl, h.len, l1, l2, l5, hi, hb]
      · rw [if_neg (by simp)]
        refine ⟨rfl, rfl, by simp [lookE_setE, l2], .inr ⟨rfl, ?_, by simp [lookE_setE]⟩⟩
        unfold inB
        rw [List.all_eq_false]
        refine ⟨l[i], List.getElem_mem hi, ?_⟩
        simp only [Bool.or_eq_true, decide_eq_true_eq] at hbb
        simp only [Bool.and_eq_true, decide_eq_true_eq]
        omega
    | false =>
      have hb := hbody false hbb
      refine ⟨.normal, ⟨[], setE (setE (setE vE 39 (.bool true)) 60 (.bool false)) 5 (.int .i64 ((i : Int) + 1)), [.cells (con k fam tv b f s)], 0, ro⟩, ?_, ?_⟩
      · simp [callBody, zipE, execL_seq, execL_region, execL_cond, execL_skip, execL_ret, execL_exit, execL_block, execOps, wantedA, S_mv, S_pick, S_bin, S_un, S_call0, S_call1, S_extract, S_nilEq, S_load, S_alloc, S_box, S_fieldAddr, S_field, Opd.ev, lookupE, lookE_setE, St.put, binA, unA, boolOf, freezeVs, freezeV, freezeD, isP, isPs, resultsA, resultA, finish, old, olds, flat, movedH_same, Nat.min_self, loadA, readCells, cellsV_int, cO_int, cO_bool, cO_str, cO_list, cO_sref, cO_nil0, cO_emp, cellsOk, con_len, con_g2, S_len 2, h.sl, h.len, l1, l2, l5, hi, hb, hwi]
      · rw [if_pos rfl]
        refine ⟨rfl, rfl, rfl, by simp [lookE_setE, l1], by simp [lookE_setE, l2], by simp [lookE_setE], ?_⟩
        unfold inB at hn ⊢
        rw [List.take_add_one, hx, List.all_append, hn]
        simp only [Bool.or_eq_false_iff, decide_eq_false_iff_not] at hbb
        simp
        omega
  · obtain ⟨e0, e1, e2, l1, l2, l5, hn⟩ := hI
    obtain ⟨tE, vE, H, low, ro⟩ := st
    simp only at e0 e1 e2 l1 l2 l5
    subst e0; subst e1; subst e2
    rw [List.take_length] at hn
    refine ⟨.exit 0, ⟨[], setE vE 39 (.bool false), [.cells (con k fam tv b f s)], 0, ro⟩, ?_, by simp, rfl, rfl, by simp [lookE_setE, l2], .inl ⟨rfl, hn⟩⟩
    rw [F22B_for]
    generalize F22B = BB
    simp [callBody, zipE, execL_seq, execL_region, execL_cond, execL_skip, execL_ret, execL_exit, execL_block, execOps, wantedA, S_mv, S_pick, S_bin, S_un, S_call0, S_call1, S_extract, S_nilEq, S_load, S_alloc, S_box, S_fieldAddr, S_field, Opd.ev, lookupE, lookE_setE, St.put, binA, unA, boolOf, freezeVs, freezeV, freezeD, isP, isPs, resultsA, resultA, finish, old, olds, flat, movedH_same, Nat.min_self, loadA, readCells, cellsV_int, cO_int, cO_bool, cO_str, cO_list, cO_sref, cO_nil0, cO_emp, cellsOk, con_len, con_g2, S_len 2, h.sl, h.len, l1, l2, l5]

set_option maxHeartbeats 4000000 in
theorem inside_b {tab : Nat → Option Fun} (h22 : tab 22 = some (.code F22)) {k fam b f s : Int} (hk : k ≠ 1) {tv : V} {l : List (Int × Int)} (h : VT tv l) {n : Nat} :
    callL tab (.fn 22 [] []) [.agg (con k fam tv b f s), .int .i64 n] [] = some (.bool (inB l n && decide (k = 0)), [], 0) := by
  rw [callL_fn, h22, F22_seq]
  obtain ⟨x, st', r, e1, e2, e3, hq⟩ := inside_loop (tab := tab) (k := k) (fam := fam) (b := b) (f := f) (s := s) h (n := n) (v0 := .agg (con k fam tv b f s))
  have hc : cellsOk (con k fam tv b f s) = true := con_ok (slE_cellOk h.sl)
  have hk1 : (k == 1) = false := beq_eq_false_iff_ne.2 hk
  rw [F22P1_cut]
  generalize (ACode.region (F22P1R0 ++ (F22P1R1 ++ (F22P1R2 ++ F22P1R3))) none) = R at *
  
  obtain ⟨tE, vE, H, low, ro⟩ := st'
  simp only at e1 e2 e3 hq
  subst e1; subst e2
  rcases hq with ⟨rfl, hin⟩ | ⟨rfl, hin, e4⟩
  · rw [hin]
    by_cases h0 : k = 0
    · subst h0
      simp [F22P0, F22P2, F22P3, F22P4, callBody, zipE, execL_seq, execL_region, execL_cond, execL_skip, execL_ret, execL_exit, execL_block, execOps, wantedA, S_mv, S_pick, S_bin, S_un, S_call0, S_call1, S_extract, S_nilEq, S_load, S_alloc, S_box, S_fieldAddr, S_field, Opd.ev, lookupE, lookE_setE, St.put, binA, unA, boolOf, freezeVs, freezeV, freezeD, isP, isPs, resultsA, resultA, finish, old, olds, flat, movedH_same, Nat.min_self, loadA, readCells, cellsV_int, cO_int, cO_bool, cO_str, cO_list, cO_sref, cO_nil0, cO_emp, cellsOk, setE, hc, cellsV, con_len, con_g0, con_get0, hk1, r, e3]
    · have hb0 : (k == 0) = false := beq_eq_false_iff_ne.2 h0
      simp [F22P0, F22P2, F22P3, F22P4, callBody, zipE, execL_seq, execL_region, execL_cond, execL_skip, execL_ret, execL_exit, execL_block, execOps, wantedA, S_mv, S_pick, S_bin, S_un, S_call0, S_call1, S_extract, S_nilEq, S_load, S_alloc, S_box, S_fieldAddr, S_field, Opd.ev, lookupE, lookE_setE, St.put, binA, unA, boolOf, freezeVs, freezeV, freezeD, isP, isPs, resultsA, resultA, finish, old, olds, flat, movedH_same, Nat.min_self, loadA, readCells, cellsV_int, cO_int, cO_bool, cO_str, cO_list, cO_sref, cO_nil0, cO_emp, cellsOk, setE, hc, cellsV, con_len, con_g0, con_get0, hk1, r, e3, hb0, h0]
  · rw [hin]
    simp [F22P0, F22P2, F22P3, F22P4, callBody, zipE, execL_seq, execL_region, execL_cond, execL_skip, execL_ret, execL_exit, execL_block, execOps, wantedA, S_mv, S_pick, S_bin, S_un, S_call0, S_call1, S_extract, S_nilEq, S_load, S_alloc, S_box, S_fieldAddr, S_field, Opd.ev, lookupE, lookE_setE, St.put, binA, unA, boolOf, freezeVs, freezeV, freezeD, isP, isPs, resultsA, resultA, finish, old, olds, flat, movedH_same, Nat.min_self, loadA, readCells, cellsV_int, cO_int, cO_bool, cO_str, cO_list, cO_sref, cO_nil0, cO_emp, cellsOk, setE, hc, cellsV, con_len, con_g0, con_get0, hk1, r, e3, e4]
end Go.Abs.T12
/- ConstraintHolds: a number in two parts, and its bound. -/
namespace Go.Abs.T12
open Go Go.Abs Go.Abs.Cyc
set_option linter.unusedSimpArgs false

theorem B_add (a b : Int) : binA .add (.int .i64 a) (.int .i64 b) = some (.int .i64 (IntKind.i64.wrap (a + b))) := rfl
theorem B_mul (a b : Int) : binA .mul (.int .i64 a) (.int .i64 b) = some (.int .i64 (IntKind.i64.wrap (a * b))) := rfl
theorem B_quo (a : Int) : binA .quo (.int .i64 a) (.int .i64 4294967296) = some (.int .i64 (IntKind.i64.wrap (a.tdiv 4294967296))) := rfl
theorem B_rem (a : Int) : binA .rem (.int .i64 a) (.int .i64 4294967296) = some (.int .i64 (a.tmod 4294967296)) := rfl
theorem B_eql (a b : Int) : binA .eql (.int .i64 a) (.int .i64 b) = some (.bool (a == b)) := rfl
theorem B_lss (a b : Int) : binA .lss (.int .i64 a) (.int .i64 b) = some (.bool (decide (a < b))) := rfl
theorem B_leq (a b : Int) : binA .leq (.int .i64 a) (.int .i64 b) = some (.bool (decide (a ≤ b))) := rfl
theorem B_geq (a b : Int) : binA .geq (.int .i64 a) (.int .i64 b) = some (.bool (decide (b ≤ a))) := rfl
theorem B_gtr (a b : Int) : binA .gtr (.int .i64 a) (.int .i64 b) = some (.bool (decide (b < a))) := rfl
theorem B_shr (a : Int) : binA .shr (.int .i64 a) (.int .u64 32) = some (.int .i64 (a / 4294967296)) := rfl
theorem B_mask (a : Int) : binA .and (.int .i64 a) (.int .i64 4294967295) = some (.int .i64 (a % 4294967296)) := by
  have h : binA .and (.int .i64 a) (.int .i64 4294967295) = some (.int .i64 (IntKind.i64.wrap (((a % 18446744073709551616).toNat &&& 4294967295 : Nat) : Int))) := rfl
  rw [h, show (4294967295 : Nat) = 2 ^ 32 - 1 by rfl, Nat.and_two_pow_sub_one_eq_mod]
  have e : (((a % 18446744073709551616).toNat % 2 ^ 32 : Nat) : Int) = a % 4294967296 := by omega
  rw [e, wrap_small] <;> omega

theorem parts_le (lo b : Int) : (decide (lo / 4294967296 < b / 4294967296) || (lo / 4294967296 == b / 4294967296) && decide (lo % 4294967296 ≤ b % 4294967296)) = decide (lo ≤ b) := by
  rw [Bool.eq_iff_iff]
  simp only [Bool.or_eq_true, Bool.and_eq_true, decide_eq_true_eq, beq_iff_eq]
  omega

def F21P0 : ACode := .region [⟨some (6, true), .mv (.const (.bool false)), none⟩] none
def F21P1 : ACode := .region [⟨some (7, false), .mv (.var 0), none⟩, ⟨some (8, false), .mv (.var 1), none⟩, ⟨some (9, false), .bin .shr (.tmp 8) (.const (.int .u64 32)), none⟩, ⟨some (10, false), .bin .add (.tmp 7) (.tmp 9), none⟩, ⟨some (11, false), .mv (.var 1), none⟩, ⟨some (12, false), .bin .and (.tmp 11) (.const (.int .i64 4294967295)), none⟩, ⟨some (0, true), .mv (.tmp 10), none⟩, ⟨some (1, true), .mv (.tmp 12), none⟩] none
def F21P2 : ACode := .region [⟨some (13, false), .mv (.var 0), none⟩, ⟨some (14, false), .mv (.var 2), none⟩, ⟨some (15, false), .bin .shr (.tmp 14) (.const (.int .u64 32)), none⟩, ⟨some (16, false), .bin .lss (.tmp 13) (.tmp 15), none⟩, ⟨some (17, false), .mv (.tmp 16), none⟩, ⟨some (18, false), .mv (.var 0), some ((.tmp 17), false)⟩, ⟨some (19, false), .mv (.var 2), some ((.tmp 17), false)⟩, ⟨some (20, false), .bin .shr (.tmp 19) (.const (.int .u64 32)), some ((.tmp 17), false)⟩, ⟨some (21, false), .bin .eql (.tmp 18) (.tmp 20), some ((.tmp 17), false)⟩, ⟨some (22, false), .mv (.tmp 21), some ((.tmp 17), false)⟩, ⟨some (23, false), .mv (.var 1), some ((.tmp 22), true)⟩, ⟨some (24, false), .mv (.var 2), some ((.tmp 22), true)⟩, ⟨some (25, false), .bin .and (.tmp 24) (.const (.int .i64 4294967295)), some ((.tmp 22), true)⟩, ⟨some (26, false), .bin .leq (.tmp 23) (.tmp 25), some ((.tmp 22), true)⟩, ⟨some (27, false), .pick (.tmp 22) (.tmp 26) (.const (.bool false)), some ((.tmp 17), false)⟩, ⟨some (28, false), .pick (.tmp 17) (.const (.bool true)) (.tmp 27), none⟩, ⟨some (6, true), .mv (.tmp 28), none⟩] none
def F21P3 : ACode := .ret
theorem F21_seq : F21 = ⟨29, .seq F21P0 (.seq F21P1 (.seq F21P2 F21P3)), [.tmp 6], false⟩ := rfl
def F21P2R0 : List AOper := [⟨some (13, false), .mv (.var 0), none⟩, ⟨some (14, false), .mv (.var 2), none⟩, ⟨some (15, false), .bin .shr (.tmp 14) (.const (.int .u64 32)), none⟩, ⟨some (16, false), .bin .lss (.tmp 13) (.tmp 15), none⟩, ⟨some (17, false), .mv (.tmp 16), none⟩]
def F21P2R1 : List AOper := [⟨some (18, false), .mv (.var 0), some ((.tmp 17), false)⟩, ⟨some (19, false), .mv (.var 2), some ((.tmp 17), false)⟩, ⟨some (20, false), .bin .shr (.tmp 19) (.const (.int .u64 32)), some ((.tmp 17), false)⟩, ⟨some (21, false), .bin .eql (.tmp 18) (.tmp 20), some ((.tmp 17), false)⟩, ⟨some (22, false), .mv (.tmp 21), some ((.tmp 17), false)⟩]
def F21P2R2 : List AOper := [⟨some (23, false), .mv (.var 1), some ((.tmp 22), true)⟩, ⟨some (24, false), .mv (.var 2), some ((.tmp 22), true)⟩, ⟨some (25, false), .bin .and (.tmp 24) (.const (.int .i64 4294967295)), some ((.tmp 22), true)⟩, ⟨some (26, false), .bin .leq (.tmp 23) (.tmp 25), some ((.tmp 22), true)⟩, ⟨some (27, false), .pick (.tmp 22) (.tmp 26) (.const (.bool false)), some ((.tmp 17), false)⟩, ⟨some (28, false), .pick (.tmp 17) (.const (.bool true)) (.tmp 27), none⟩, ⟨some (6, true), .mv (.tmp 28), none⟩]
theorem F21P2_cut : F21P2 = .region (F21P2R0 ++ (F21P2R1 ++ F21P2R2)) none := rfl

section
variable {call : CallT} {h lo b : Int} {tE vE : Env} {H : Heap} {low : Nat} {ro : Option Nat}
theorem b1 (e0 : lookupE vE 0 = .int .i64 h) (e2 : lookupE vE 2 = .int .i64 b) (hl : low ≤ H.length) : Piece call F21P2R0 [] vE H low ro 17 (.bool (decide (h < b / 4294967296))) := fun wr => by
  refine ⟨_, _, by simp [F21P2R0, callBody, zipE, execL_seq, execL_region, execL_cond, execL_skip, execL_ret, execL_exit, execL_block, execOps, wantedA, S_mv, S_pick, S_bin, S_un, S_call0, S_call1, S_extract, S_nilEq, S_load, S_alloc, S_box, S_fieldAddr, S_field, Opd.ev, lookupE, lookE_setE, St.put, unA, boolOf, freezeVs, freezeV, freezeD, isP, isPs, resultsA, resultA, finish, old, olds, flat, movedH_same, Nat.min_self, loadA, readCells, cellsV_int, cO_int, cO_bool, cO_str, cO_list, cO_sref, cO_nil0, cO_emp, cellsOk, B_add, B_mul, B_quo, B_rem, B_eql, B_lss, B_leq, B_geq, B_gtr, B_shr, B_mask, e0, e2, Nat.min_eq_left hl]; exact ⟨rfl, rfl⟩, by simp [lookupE]⟩
theorem b2 {x : Bool} (e0 : lookupE vE 0 = .int .i64 h) (e2 : lookupE vE 2 = .int .i64 b) (hl : low ≤ H.length) (q : lookupE tE 17 = .bool x) (wr : List Bool) : ∃ tE' wr', execOps call F21P2R1 ⟨tE, vE, H, low, ro⟩ wr = some (⟨tE', vE, H, low, ro⟩, wr') ∧ lookupE tE' 17 = .bool x ∧ (x = false → lookupE tE' 22 = .bool (h == b / 4294967296)) ∧ (x = true → lookupE tE' 22 = .tup []) := by
  cases x
  · exact ⟨_, _, by simp [F21P2R1, callBody, zipE, execL_seq, execL_region, execL_cond, execL_skip, execL_ret, execL_exit, execL_block, execOps, wantedA, S_mv, S_pick, S_bin, S_un, S_call0, S_call1, S_extract, S_nilEq, S_load, S_alloc, S_box, S_fieldAddr, S_field, Opd.ev, lookupE, lookE_setE, St.put, unA, boolOf, freezeVs, freezeV, freezeD, isP, isPs, resultsA, resultA, finish, old, olds, flat, movedH_same, Nat.min_self, loadA, readCells, cellsV_int, cO_int, cO_bool, cO_str, cO_list, cO_sref, cO_nil0, cO_emp, cellsOk, B_add, B_mul, B_quo, B_rem, B_eql, B_lss, B_leq, B_geq, B_gtr, B_shr, B_mask, e0, e2, q, Nat.min_eq_left hl]; exact ⟨rfl, rfl⟩, by simp [lookupE, q], by simp [lookupE], by simp⟩
  · exact ⟨_, _, by simp [F21P2R1, callBody, zipE, execL_seq, execL_region, execL_cond, execL_skip, execL_ret, execL_exit, execL_block, execOps, wantedA, S_mv, S_pick, S_bin, S_un, S_call0, S_call1, S_extract, S_nilEq, S_load, S_alloc, S_box, S_fieldAddr, S_field, Opd.ev, lookupE, lookE_setE, St.put, unA, boolOf, freezeVs, freezeV, freezeD, isP, isPs, resultsA, resultA, finish, old, olds, flat, movedH_same, Nat.min_self, loadA, readCells, cellsV_int, cO_int, cO_bool, cO_str, cO_list, cO_sref, cO_nil0, cO_emp, cellsOk, B_add, B_mul, B_quo, B_rem, B_eql, B_lss, B_leq, B_geq, B_gtr, B_shr, B_mask, e0, e2, q, Nat.min_eq_left hl]; exact ⟨rfl, rfl⟩, by simp [lookupE, q], by simp, by simp [lookupE]⟩
theorem b3 {x : Bool} {y : Bool} (e1 : lookupE vE 1 = .int .i64 lo) (e2 : lookupE vE 2 = .int .i64 b) (hl : low ≤ H.length) (q : lookupE tE 17 = .bool x) (q2 : x = false → lookupE tE 22 = .bool y) (q4 : x = true → lookupE tE 22 = .tup []) (wr : List Bool) :
    ∃ tE' wr', execOps call F21P2R2 ⟨tE, vE, H, low, ro⟩ wr = some (⟨tE', setE vE 6 (.bool (x || y && decide (lo ≤ b % 4294967296))), H, low, ro⟩, wr') := by
  cases x
  · have q3 := q2 rfl
    cases y
    · exact ⟨_, _, by simp [F21P2R2, callBody, zipE, execL_seq, execL_region, execL_cond, execL_skip, execL_ret, execL_exit, execL_block, execOps, wantedA, S_mv, S_pick, S_bin, S_un, S_call0, S_call1, S_extract, S_nilEq, S_load, S_alloc, S_box, S_fieldAddr, S_field, Opd.ev, lookupE, lookE_setE, St.put, unA, boolOf, freezeVs, freezeV, freezeD, isP, isPs, resultsA, resultA, finish, old, olds, flat, movedH_same, Nat.min_self, loadA, readCells, cellsV_int, cO_int, cO_bool, cO_str, cO_list, cO_sref, cO_nil0, cO_emp, cellsOk, B_add, B_mul, B_quo, B_rem, B_eql, B_lss, B_leq, B_geq, B_gtr, B_shr, B_mask, e1, e2, q, q3, Nat.min_eq_left hl]; exact ⟨rfl, rfl⟩⟩
    · exact ⟨_, _, by simp [F21P2R2, callBody, zipE, execL_seq, execL_region, execL_cond, execL_skip, execL_ret, execL_exit, execL_block, execOps, wantedA, S_mv, S_pick, S_bin, S_un, S_call0, S_call1, S_extract, S_nilEq, S_load, S_alloc, S_box, S_fieldAddr, S_field, Opd.ev, lookupE, lookE_setE, St.put, unA, boolOf, freezeVs, freezeV, freezeD, isP, isPs, resultsA, resultA, finish, old, olds, flat, movedH_same, Nat.min_self, loadA, readCells, cellsV_int, cO_int, cO_bool, cO_str, cO_list, cO_sref, cO_nil0, cO_emp, cellsOk, B_add, B_mul, B_quo, B_rem, B_eql, B_lss, B_leq, B_geq, B_gtr, B_shr, B_mask, e1, e2, q, q3, Nat.min_eq_left hl]; exact ⟨rfl, rfl⟩⟩
  · exact ⟨_, _, by simp [F21P2R2, callBody, zipE, execL_seq, execL_region, execL_cond, execL_skip, execL_ret, execL_exit, execL_block, execOps, wantedA, S_mv, S_pick, S_bin, S_un, S_call0, S_call1, S_extract, S_nilEq, S_load, S_alloc, S_box, S_fieldAddr, S_field, Opd.ev, lookupE, lookE_setE, St.put, unA, boolOf, freezeVs, freezeV, freezeD, isP, isPs, resultsA, resultA, finish, old, olds, flat, movedH_same, Nat.min_self, loadA, readCells, cellsV_int, cO_int, cO_bool, cO_str, cO_list, cO_sref, cO_nil0, cO_emp, cellsOk, B_add, B_mul, B_quo, B_rem, B_eql, B_lss, B_leq, B_geq, B_gtr, B_shr, B_mask, e1, e2, q, q4 rfl, Nat.min_eq_left hl]; exact ⟨rfl, rfl⟩⟩
end

theorem bounded_s {tab : Nat → Option Fun} (h21 : tab 21 = some (.code F21)) {lo b : Int} (h1 : -4611686018427387904 ≤ lo) (h2 : lo < 4611686018427387904) :
    callL tab (.fn 21 [] []) [.int .i64 0, .int .i64 lo, .int .i64 b] [] = some (.bool (decide (lo ≤ b)), [], 0) := by
  rw [callL_fn, h21, F21_seq, F21P2_cut]
  have hw : IntKind.i64.wrap (lo / 4294967296) = lo / 4294967296 := by rw [wrap_small] <;> omega
  have e0 : lookupE [(0, .int .i64 (lo / 4294967296)), (1, .int .i64 (lo % 4294967296)), (2, .int .i64 b), (6, .bool false)] 0 = .int .i64 (lo / 4294967296) := rfl
  have e1 : lookupE [(0, .int .i64 (lo / 4294967296)), (1, .int .i64 (lo % 4294967296)), (2, .int .i64 b), (6, .bool false)] 1 = .int .i64 (lo % 4294967296) := rfl
  have e2 : lookupE [(0, .int .i64 (lo / 4294967296)), (1, .int .i64 (lo % 4294967296)), (2, .int .i64 b), (6, .bool false)] 2 = .int .i64 b := rfl
  obtain ⟨tE1, wr1, r1, l1⟩ := b1 (call := callL tab) (H := []) (low := 0) (ro := none) e0 e2 (Nat.le_refl _) []
  obtain ⟨tE2, wr2, r2, l2, l3, l4⟩ := b2 (call := callL tab) (H := []) (low := 0) (ro := none) e0 e2 (Nat.le_refl _) l1 wr1.reverse
  obtain ⟨tE3, wr3, r3⟩ := b3 (call := callL tab) (H := []) (low := 0) (ro := none) e1 e2 (Nat.le_refl _) l2 l3 l4 wr2.reverse
  rw [parts_le] at r3
  have key : execL tab (.region (F21P2R0 ++ (F21P2R1 ++ F21P2R2)) none) ⟨[], [(0, .int .i64 (lo / 4294967296)), (1, .int .i64 (lo % 4294967296)), (2, .int .i64 b), (6, .bool false)], [], 0, none⟩ = some (.normal, ⟨[], [(0, .int .i64 (lo / 4294967296)), (1, .int .i64 (lo % 4294967296)), (2, .int .i64 b), (6, .bool (decide (lo ≤ b)))], [], 0, none⟩) := by
    rw [execL_region]
    have : execOps (callL tab) (F21P2R0 ++ (F21P2R1 ++ F21P2R2)) ⟨[], [(0, .int .i64 (lo / 4294967296)), (1, .int .i64 (lo % 4294967296)), (2, .int .i64 b), (6, .bool false)], [], 0, none⟩ [] = some (⟨tE3, [(0, .int .i64 (lo / 4294967296)), (1, .int .i64 (lo % 4294967296)), (2, .int .i64 b), (6, .bool (decide (lo ≤ b)))], [], 0, none⟩, wr3) := by
      rw [execOps_app, r1]
      simp only []
      rw [execOps_app, r2]
      exact r3
    simp only [this]
  generalize (ACode.region (F21P2R0 ++ (F21P2R1 ++ F21P2R2)) none) = R at *
  simp [F21P0, F21P1, F21P3, callBody, zipE, execL_seq, execL_region, execL_cond, execL_skip, execL_ret, execL_exit, execL_block, execOps, wantedA, S_mv, S_pick, S_bin, S_un, S_call0, S_call1, S_extract, S_nilEq, S_load, S_alloc, S_box, S_fieldAddr, S_field, Opd.ev, lookupE, lookE_setE, St.put, unA, boolOf, freezeVs, freezeV, freezeD, isP, isPs, resultsA, resultA, finish, old, olds, flat, movedH_same, Nat.min_self, loadA, readCells, cellsV_int, cO_int, cO_bool, cO_str, cO_list, cO_sref, cO_nil0, cO_emp, cellsOk, B_add, B_mul, B_quo, B_rem, B_eql, B_lss, B_leq, B_geq, B_gtr, B_shr, B_mask, setE, hw, key]
end Go.Abs.T12
/- ConstraintHolds: the sum of a row, by the implementation and by the reference. -/
namespace Go.Abs.T12
open Go Go.Abs Go.Abs.Cyc
set_option linter.unusedSimpArgs false

def sumT (vals : List Int) : List (Int × Int) → Int
  | [] => 0
  | p :: r => p.2 * vals.getD p.1.toNat 0 + sumT vals r

theorem sumT_app (vals : List Int) : ∀ a b : List (Int × Int), sumT vals (a ++ b) = sumT vals a + sumT vals b
  | [], b => by simp [sumT]
  | p :: a, b => by simp only [List.cons_append, sumT, sumT_app vals a b]; omega

theorem near_mul {a b : Int} (h1 : near a = true) (h2 : near b = true) : -1000000000000 ≤ a * b ∧ a * b ≤ 1000000000000 := by
  simp only [near, Bool.and_eq_true, decide_eq_true_eq] at h1 h2
  have h : (a * b).natAbs ≤ 1000000 * 1000000 := by
    rw [Int.natAbs_mul]
    exact Nat.mul_le_mul (by omega) (by omega)
  omega

theorem sumT_bound {vals : List Int} (hv : vals.all near = true) : ∀ {l : List (Int × Int)}, l.all (fun p => near p.2) = true → -(1000000000000 * (l.length : Int)) ≤ sumT vals l ∧ sumT vals l ≤ 1000000000000 * (l.length : Int)
  | [], _ => by simp [sumT]
  | p :: r, h => by
    simp only [List.all_cons, Bool.and_eq_true] at h
    obtain ⟨h1, h2⟩ := sumT_bound hv h.2
    have hg : near (vals.getD p.1.toNat 0) = true := by
      rw [List.getD_eq_getElem?_getD]
      cases hx : vals[p.1.toNat]? with
      | none => rfl
      | some x => exact List.all_eq_true.1 hv x (List.mem_of_getElem? hx)
    have h3 := near_mul h.1 hg
    simp only [sumT, List.length_cons]
    omega

theorem small_parts {a : Int} (h : near a = true) : a.tdiv 4294967296 = 0 ∧ a.tmod 4294967296 = a := by
  simp only [near, Bool.and_eq_true, decide_eq_true_eq] at h
  have pos : ∀ n : Nat, n ≤ 1000000 → (n : Int).tdiv 4294967296 = 0 ∧ (n : Int).tmod 4294967296 = n := fun n hn => by
    have e1 : (n : Int).tdiv 4294967296 = ((n / 4294967296 : Nat) : Int) := rfl
    have e2 : (n : Int).tmod 4294967296 = ((n % 4294967296 : Nat) : Int) := rfl
    rw [e1, e2]
    omega
  obtain ⟨n, rfl | rfl⟩ := Int.eq_nat_or_neg a
  · exact pos n (by omega)
  · obtain ⟨h1, h2⟩ := pos n (by omega)
    rw [Int.neg_tdiv, Int.neg_tmod, h1, h2]
    exact ⟨rfl, rfl⟩

theorem store_cells {H : Heap} {x y a b : Int} : storeA (H ++ [.cells [.int .i64 x, .int .i64 y]]) 2 (.ptr H.length 0) (.agg [.int .i64 a, .int .i64 b]) = some (H ++ [.cells [.int .i64 a, .int .i64 b]], H.length) := by
  simp [storeA, cellsV, cellsOk, cellOk, setCells]

def F23P0 : ACode := .region [⟨some (2, true), .box (.var 0), none⟩, ⟨some (4, true), .mv (.const (.bool false)), none⟩] none
def F23P1 : ACode := .region [⟨some (5, true), .mv (.const (.int .i64 0)), none⟩, ⟨some (6, true), .mv (.const (.int .i64 0)), none⟩] none
def F23P2 : ACode := .seq (.region [⟨some (7, true), .mv (.const (.int .i64 0)), none⟩] none) (.block 0 (.loop F23L0))
def F23P3 : ACode := .region [⟨some (45, false), .mv (.var 5), none⟩, ⟨some (46, false), .mv (.var 6), none⟩, ⟨some (47, false), .bin .shr (.tmp 46) (.const (.int .u64 32)), none⟩, ⟨some (48, false), .bin .add (.tmp 45) (.tmp 47), none⟩, ⟨some (49, false), .mv (.var 6), none⟩, ⟨some (50, false), .bin .and (.tmp 49) (.const (.int .i64 4294967295)), none⟩, ⟨some (5, true), .mv (.tmp 48), none⟩, ⟨some (6, true), .mv (.tmp 50), none⟩] none
def F23P4 : ACode := .region [⟨some (51, false), .fieldAddr 1 (.var 2), none⟩, ⟨some (52, false), .load none (.tmp 51), none⟩, ⟨some (53, false), .bin .shr (.tmp 52) (.const (.int .u64 32)), none⟩, ⟨some (54, false), .fieldAddr 1 (.var 2), none⟩, ⟨some (55, false), .load none (.tmp 54), none⟩, ⟨some (56, false), .bin .and (.tmp 55) (.const (.int .i64 4294967295)), none⟩, ⟨some (9, true), .mv (.tmp 53), none⟩, ⟨some (10, true), .mv (.tmp 56), none⟩] (some [0, 1, 3, 0, 8, 24, 7, 127])
def F23P5 : ACode := .region [⟨some (57, false), .mv (.var 5), none⟩, ⟨some (58, false), .mv (.var 9), none⟩, ⟨some (59, false), .bin .lss (.tmp 57) (.tmp 58), none⟩, ⟨some (60, false), .mv (.tmp 59), none⟩, ⟨some (61, false), .mv (.var 5), some ((.tmp 60), false)⟩, ⟨some (62, false), .mv (.var 9), some ((.tmp 60), false)⟩, ⟨some (63, false), .bin .eql (.tmp 61) (.tmp 62), some ((.tmp 60), false)⟩, ⟨some (64, false), .mv (.tmp 63), some ((.tmp 60), false)⟩, ⟨some (65, false), .mv (.var 6), some ((.tmp 64), true)⟩, ⟨some (66, false), .mv (.var 10), some ((.tmp 64), true)⟩, ⟨some (67, false), .bin .leq (.tmp 65) (.tmp 66), some ((.tmp 64), true)⟩, ⟨some (68, false), .pick (.tmp 64) (.tmp 67) (.const (.bool false)), some ((.tmp 60), false)⟩, ⟨some (69, false), .pick (.tmp 60) (.const (.bool true)) (.tmp 68), none⟩, ⟨some (4, true), .mv (.tmp 69), none⟩] none
def F23P6 : ACode := .ret
theorem F23_seq : F23 = ⟨70, .seq F23P0 (.seq F23P1 (.seq F23P2 (.seq F23P3 (.seq F23P4 (.seq F23P5 F23P6))))), [.tmp 4], false⟩ := rfl
def F23B : ACode := .seq (.region [⟨some (18, false), .fieldAddr 0 (.var 2), none⟩, ⟨some (19, false), .load none (.tmp 18), none⟩, ⟨some (20, false), .mv (.var 7), none⟩, ⟨some (21, false), .indexAddr 2 (.tmp 19) (.tmp 20), none⟩, ⟨some (22, false), .load (some 2) (.tmp 21), none⟩, ⟨some (8, true), .alloc [.int .i64 0, .int .i64 0], none⟩, ⟨none, .store 2 (.var 8) (.tmp 22), none⟩] none) (.seq (.region [⟨some (23, false), .mv (.var 5), none⟩, ⟨some (24, false), .fieldAddr 1 (.var 8), none⟩, ⟨some (25, false), .load none (.tmp 24), none⟩, ⟨some (26, false), .mv (.var 1), none⟩, ⟨some (27, false), .fieldAddr 0 (.var 8), none⟩, ⟨some (28, false), .load none (.tmp 27), none⟩, ⟨some (29, false), .indexAddr 1 (.tmp 26) (.tmp 28), none⟩, ⟨some (30, false), .load none (.tmp 29), none⟩, ⟨some (31, false), .bin .quo (.tmp 30) (.const (.int .i64 4294967296)), none⟩, ⟨some (32, false), .bin .mul (.tmp 25) (.tmp 31), none⟩, ⟨some (33, false), .bin .add (.tmp 23) (.tmp 32), none⟩, ⟨some (5, true), .mv (.tmp 33), none⟩] (some [0, 0, 2, 0, 0, 16, 56, 120, 248, 510, 1023, 2047])) (.region [⟨some (34, false), .mv (.var 6), none⟩, ⟨some (35, false), .fieldAddr 1 (.var 8), none⟩, ⟨some (36, false), .load none (.tmp 35), none⟩, ⟨some (37, false), .mv (.var 1), none⟩, ⟨some (38, false), .fieldAddr 0 (.var 8), none⟩, ⟨some (39, false), .load none (.tmp 38), none⟩, ⟨some (40, false), .indexAddr 1 (.tmp 37) (.tmp 39), none⟩, ⟨some (41, false), .load none (.tmp 40), none⟩, ⟨some (42, false), .bin .rem (.tmp 41) (.const (.int .i64 4294967296)), none⟩, ⟨some (43, false), .bin .mul (.tmp 36) (.tmp 42), none⟩, ⟨some (44, false), .bin .add (.tmp 34) (.tmp 43), none⟩, ⟨some (6, true), .mv (.tmp 44), none⟩] (some [0, 0, 2, 0, 0, 16, 56, 120, 248, 510, 1023, 2047])))
theorem F23B_for : F23L0 = .seq (.seq (.region [⟨some (11, false), .mv (.var 7), none⟩, ⟨some (12, false), .fieldAddr 0 (.var 2), none⟩, ⟨some (13, false), .load none (.tmp 12), none⟩, ⟨some (14, false), .len 1 (.tmp 13), none⟩, ⟨some (15, true), .bin .lss (.tmp 11) (.tmp 14), none⟩] none) (.cond (.var 15) (.skip) (.exit 0))) (.seq (.block 1 F23B) (.region [⟨some (16, false), .mv (.var 7), none⟩, ⟨some (17, false), .bin .add (.tmp 16) (.const (.int .i64 1)), none⟩, ⟨some (7, true), .mv (.tmp 17), none⟩] none)) := rfl
def F23BQ0 : ACode := .region [⟨some (18, false), .fieldAddr 0 (.var 2), none⟩, ⟨some (19, false), .load none (.tmp 18), none⟩, ⟨some (20, false), .mv (.var 7), none⟩, ⟨some (21, false), .indexAddr 2 (.tmp 19) (.tmp 20), none⟩, ⟨some (22, false), .load (some 2) (.tmp 21), none⟩, ⟨some (8, true), .alloc [.int .i64 0, .int .i64 0], none⟩, ⟨none, .store 2 (.var 8) (.tmp 22), none⟩] none
def F23BQ1 : ACode := .region [⟨some (23, false), .mv (.var 5), none⟩, ⟨some (24, false), .fieldAddr 1 (.var 8), none⟩, ⟨some (25, false), .load none (.tmp 24), none⟩, ⟨some (26, false), .mv (.var 1), none⟩, ⟨some (27, false), .fieldAddr 0 (.var 8), none⟩, ⟨some (28, false), .load none (.tmp 27), none⟩, ⟨some (29, false), .indexAddr 1 (.tmp 26) (.tmp 28), none⟩, ⟨some (30, false), .load none (.tmp 29), none⟩, ⟨some (31, false), .bin .quo (.tmp 30) (.const (.int .i64 4294967296)), none⟩, ⟨some (32, false), .bin .mul (.tmp 25) (.tmp 31), none⟩, ⟨some (33, false), .bin .add (.tmp 23) (.tmp 32), none⟩, ⟨some (5, true), .mv (.tmp 33), none⟩] (some [0, 0, 2, 0, 0, 16, 56, 120, 248, 510, 1023, 2047])
def F23BQ2 : ACode := .region [⟨some (34, false), .mv (.var 6), none⟩, ⟨some (35, false), .fieldAddr 1 (.var 8), none⟩, ⟨some (36, false), .load none (.tmp 35), none⟩, ⟨some (37, false), .mv (.var 1), none⟩, ⟨some (38, false), .fieldAddr 0 (.var 8), none⟩, ⟨some (39, false), .load none (.tmp 38), none⟩, ⟨some (40, false), .indexAddr 1 (.tmp 37) (.tmp 39), none⟩, ⟨some (41, false), .load none (.tmp 40), none⟩, ⟨some (42, false), .bin .rem (.tmp 41) (.const (.int .i64 4294967296)), none⟩, ⟨some (43, false), .bin .mul (.tmp 36) (.tmp 42), none⟩, ⟨some (44, false), .bin .add (.tmp 34) (.tmp 43), none⟩, ⟨some (6, true), .mv (.tmp 44), none⟩] (some [0, 0, 2, 0, 0, 16, 56, 120, 248, 510, 1023, 2047])
theorem F23B_seq : F23B = .seq F23BQ0 (.seq F23BQ1 F23BQ2) := rfl

/-- The list's cell that a term names. -/
structure Tm (l : List (Int × Int)) (vals : List Int) (i : Nat) (p : Int × Int) (x : Int) : Prop where
  at_ : l[i]? = some p
  pos : 0 ≤ p.1
  val : vals[p.1.toNat]? = some x
  nf : near p.2 = true
  nx : near x = true

theorem movedH_app (H : Heap) (x : AObj) : movedH (H ++ [x]) (H ++ [x]) (H.length + 1) = false := by simp [movedH]
theorem zero_wrap : IntKind.i64.wrap 0 = 0 := rfl

set_option maxHeartbeats 4000000 in
theorem small_body {tab : Nat → Option Fun} {tv sv : V} {l : List (Int × Int)} {vals : List Int} {b S : Int} (ht : VT tv l) (hv : VL sv vals) {i : Nat} {p : Int × Int} {x : Int} (q : Tm l vals i p x) {vE : Env} {H : Heap} {ro : Option Nat}
    (h0 : H[0]? = some (.cells [tv, .int .i64 b])) (e1 : lookupE vE 1 = sv) (e2 : lookupE vE 2 = .ptr 0 0) (e5 : lookupE vE 5 = .int .i64 0) (e6 : lookupE vE 6 = .int .i64 S) (e7 : lookupE vE 7 = .int .i64 i)
    (hS1 : -1000000000000000 ≤ S) (hS2 : S ≤ 1000000000000000) :
    execL tab F23B ⟨[], vE, H, 0, ro⟩ = some (.normal, ⟨[], setE (setE (setE vE 8 (.ptr H.length 0)) 5 (.int .i64 0)) 6 (.int .i64 (S + p.2 * x)), H ++ [.cells [.int .i64 p.1, .int .i64 p.2]], 0, ro⟩) := by
  obtain ⟨hx, hpos, hval, hnf, hnx⟩ := q
  have hg := ht.get hx
  have hgx := hv.get hval
  have hnat : natOf (.int .i64 p.1) = some p.1.toNat := natOf_nonneg _ hpos
  obtain ⟨d1, d2⟩ := small_parts hnx
  have hm := near_mul hnf hnx
  have w1 : IntKind.i64.wrap (p.2 * x) = p.2 * x := by rw [wrap_small] <;> omega
  have w2 : IntKind.i64.wrap (S + p.2 * x) = S + p.2 * x := by rw [wrap_small] <;> omega
  rw [F23B_seq, execL_seq]
  have r0 : execL tab F23BQ0 ⟨[], vE, H, 0, ro⟩ = some (.normal, ⟨[], setE vE 8 (.ptr H.length 0), H ++ [.cells [.int .i64 p.1, .int .i64 p.2]], 0, ro⟩) := by
    simp [F23BQ0, callBody, zipE, execL_seq, execL_region, execL_cond, execL_skip, execL_ret, execL_exit, execL_block, execOps, wantedA, S_mv, S_pick, S_bin, S_un, S_call0, S_call1, S_extract, S_nilEq, S_load, S_alloc, S_box, S_fieldAddr, S_field, Opd.ev, lookupE, lookE_setE, St.put, unA, boolOf, freezeVs, freezeV, freezeD, isP, isPs, resultsA, resultA, finish, old, olds, flat, movedH_same, Nat.min_self, loadA, readCells, cellsV_int, cO_int, cO_bool, cO_str, cO_list, cO_sref, cO_nil0, cO_emp, cellsOk, B_add, B_mul, B_quo, B_rem, B_eql, B_lss, B_leq, B_geq, B_gtr, B_shr, B_mask, h0, e2, e7, S_index, ht.sl, hg, cellsV_tm, S_store, store_cells]
  rw [r0]
  simp only []
  have f1 : lookupE (setE vE 8 (.ptr H.length 0)) 1 = sv := by simp [lookE_setE, e1]
  have f5 : lookupE (setE vE 8 (.ptr H.length 0)) 5 = .int .i64 0 := by simp [lookE_setE, e5]
  have f6 : lookupE (setE vE 8 (.ptr H.length 0)) 6 = .int .i64 S := by simp [lookE_setE, e6]
  have f8 : lookupE (setE vE 8 (.ptr H.length 0)) 8 = .ptr H.length 0 := by simp [lookE_setE]
  generalize setE vE 8 (.ptr H.length 0) = vF at *
  have r1 : execL tab F23BQ1 ⟨[], vF, H ++ [.cells [.int .i64 p.1, .int .i64 p.2]], 0, ro⟩ = some (.normal, ⟨[], setE vF 5 (.int .i64 0), H ++ [.cells [.int .i64 p.1, .int .i64 p.2]], 0, ro⟩) := by
    simp [F23BQ1, callBody, zipE, execL_seq, execL_region, execL_cond, execL_skip, execL_ret, execL_exit, execL_block, execOps, wantedA, S_mv, S_pick, S_bin, S_un, S_call0, S_call1, S_extract, S_nilEq, S_load, S_alloc, S_box, S_fieldAddr, S_field, Opd.ev, lookupE, lookE_setE, St.put, unA, boolOf, freezeVs, freezeV, freezeD, isP, isPs, resultsA, resultA, finish, old, olds, flat, movedH_same, Nat.min_self, loadA, readCells, cellsV_int, cO_int, cO_bool, cO_str, cO_list, cO_sref, cO_nil0, cO_emp, cellsOk, B_add, B_mul, B_quo, B_rem, B_eql, B_lss, B_leq, B_geq, B_gtr, B_shr, B_mask, f1, f5, f8, get_last, S_index, hv.sl, hgx, hnat, d1, zero_wrap, movedH_app, inOrder, inOrder0]
  rw [execL_seq, r1]
  simp only []
  simp [F23BQ2, callBody, zipE, execL_seq, execL_region, execL_cond, execL_skip, execL_ret, execL_exit, execL_block, execOps, wantedA, S_mv, S_pick, S_bin, S_un, S_call0, S_call1, S_extract, S_nilEq, S_load, S_alloc, S_box, S_fieldAddr, S_field, Opd.ev, lookupE, lookE_setE, St.put, unA, boolOf, freezeVs, freezeV, freezeD, isP, isPs, resultsA, resultA, finish, old, olds, flat, movedH_same, Nat.min_self, loadA, readCells, cellsV_int, cO_int, cO_bool, cO_str, cO_list, cO_sref, cO_nil0, cO_emp, cellsOk, B_add, B_mul, B_quo, B_rem, B_eql, B_lss, B_leq, B_geq, B_gtr, B_shr, B_mask, f1, f6, f8, get_last, S_index, hv.sl, hgx, hnat, d2, w1, w2, movedH_app, inOrder, inOrder0]
end Go.Abs.T12
/- ConstraintHolds: the reference's sum against its bound. -/
namespace Go.Abs.T12
open Go Go.Abs Go.Abs.Cyc
set_option linter.unusedSimpArgs false

/-- A row whose terms and values are few, and whose cells are the list's. -/
structure Row (tv sv : V) (l : List (Int × Int)) (vals : List Int) : Prop where
  t : VT tv l
  v : VL sv vals
  few : fewB l = true
  fewv : fewV vals = true

theorem Row.len {tv sv : V} {l : List (Int × Int)} {vals : List Int} (h : Row tv sv l vals) : l.length ≤ 100 := by
  have := h.few
  simp only [fewB, Bool.and_eq_true, decide_eq_true_eq] at this
  exact this.2
theorem Row.nf {tv sv : V} {l : List (Int × Int)} {vals : List Int} (h : Row tv sv l vals) : l.all (fun p => near p.2) = true := by
  have := h.few
  simp only [fewB, Bool.and_eq_true, decide_eq_true_eq] at this
  exact this.1
theorem Row.nv {tv sv : V} {l : List (Int × Int)} {vals : List Int} (h : Row tv sv l vals) : vals.all near = true := by
  have := h.fewv
  simp only [fewV, Bool.and_eq_true, decide_eq_true_eq] at this
  exact this.1
theorem Row.tm {tv sv : V} {l : List (Int × Int)} {vals : List Int} (h : Row tv sv l vals) {i : Nat} (hi : i < l.length) (hin : 0 ≤ l[i].1 ∧ l[i].1 < vals.length) : ∃ x, Tm l vals i l[i] x := by
  have hlt : l[i].1.toNat < vals.length := by omega
  refine ⟨vals[l[i].1.toNat], by simp, hin.1, by simp [hlt], List.all_eq_true.1 h.nf _ (List.getElem_mem hi), List.all_eq_true.1 h.nv _ (List.getElem_mem hlt)⟩
theorem inB_get {l : List (Int × Int)} {n : Nat} (h : inB l n = true) {i : Nat} (hi : i < l.length) : 0 ≤ l[i].1 ∧ l[i].1 < (n : Int) := by
  have := List.all_eq_true.1 h _ (List.getElem_mem hi)
  simpa using this
theorem Row.sum {tv sv : V} {l : List (Int × Int)} {vals : List Int} (h : Row tv sv l vals) (i : Nat) : -100000000000000 ≤ sumT vals (l.take i) ∧ sumT vals (l.take i) ≤ 100000000000000 := by
  have h1 : (l.take i).all (fun p => near p.2) = true := List.all_eq_true.2 fun p hp => List.all_eq_true.1 h.nf p (List.mem_of_mem_take hp)
  have h2 := sumT_bound h.nv h1
  have h3 : (l.take i).length ≤ 100 := by rw [List.length_take]; have := h.len; omega
  omega
theorem sumT_succ {l : List (Int × Int)} {vals : List Int} {i : Nat} {p : Int × Int} {x : Int} (q : Tm l vals i p x) : sumT vals (l.take (i + 1)) = sumT vals (l.take i) + p.2 * x := by
  rw [List.take_add_one, q.at_, sumT_app]
  simp [sumT, q.val]

set_option maxHeartbeats 4000000 in
theorem small_loop {tab : Nat → Option Fun} {tv sv : V} {l : List (Int × Int)} {vals : List Int} {b : Int} (h : Row tv sv l vals) (hin : inB l vals.length = true) {vE : Env} 
    (e1 : lookupE vE 1 = sv) (e2 : lookupE vE 2 = .ptr 0 0) (e5 : lookupE vE 5 = .int .i64 0) (e6 : lookupE vE 6 = .int .i64 0) (e7 : lookupE vE 7 = .int .i64 0) :
    ∃ st', execL tab (.loop F23L0) ⟨[], vE, [.cells [tv, .int .i64 b]], 0, none⟩ = some (.exit 0, st') ∧ st'.low = 0 ∧ st'.H[0]? = some (.cells [tv, .int .i64 b]) ∧ lookupE st'.vE 2 = .ptr 0 0 ∧ lookupE st'.vE 5 = .int .i64 0 ∧ lookupE st'.vE 6 = .int .i64 (sumT vals l) := by
  have key := while_loop (tab := tab) (c := F23L0) (N := l.length)
    (I := fun i st => st.tE = [] ∧ st.low = 0 ∧ st.H[0]? = some (.cells [tv, .int .i64 b]) ∧ lookupE st.vE 1 = sv ∧ lookupE st.vE 2 = .ptr 0 0 ∧ lookupE st.vE 5 = .int .i64 0 ∧ lookupE st.vE 6 = .int .i64 (sumT vals (l.take i)) ∧ lookupE st.vE 7 = .int .i64 i)
    (Q := fun x st => x = .exit 0 ∧ st.low = 0 ∧ st.H[0]? = some (.cells [tv, .int .i64 b]) ∧ lookupE st.vE 2 = .ptr 0 0 ∧ lookupE st.vE 5 = .int .i64 0 ∧ lookupE st.vE 6 = .int .i64 (sumT vals l))
    (fun i st hi hI => ?_) (fun st hI => ?_) l.length 0 ⟨[], vE, [.cells [tv, .int .i64 b]], 0, none⟩ (by omega) ⟨rfl, rfl, rfl, e1, e2, e5, e6, e7⟩
  · obtain ⟨x, st', r, rfl, q⟩ := key
    exact ⟨st', r, q⟩
  · obtain ⟨c0, c1, c2, l1, l2, l5, l6, l7⟩ := hI
    obtain ⟨tE, vE, H, low, ro⟩ := st
    simp only at c0 c1 c2 l1 l2 l5 l6 l7
    subst c0; subst c1
    obtain ⟨x, q⟩ := h.tm hi (inB_get hin hi)
    obtain ⟨s1, s2⟩ := h.sum i
    have hb := small_body (tab := tab) (b := b) h.t h.v q (vE := setE vE 15 (.bool true)) (H := H) (ro := ro) (S := sumT vals (l.take i)) c2 (by simp [lookE_setE, l1]) (by simp [lookE_setE, l2]) (by simp [lookE_setE, l5]) (by simp [lookE_setE, l6]) (by simp [lookE_setE, l7]) (by omega) (by omega)
    have hlt := h.t.lt
    have hil : (i : Int) < (l.length : Int) := by omega
    have hwi : IntKind.i64.wrap ((i : Int) + 1) = (i : Int) + 1 := by rw [wrap_small] <;> omega
    have hH : 0 < H.length := by
      rcases Nat.eq_zero_or_pos H.length with e | e
      · rw [List.length_eq_zero_iff.1 e] at c2; cases c2
      · exact e
    rw [F23B_for]
    generalize F23B = BB at hb ⊢
    refine ⟨.normal, ⟨[], setE (setE (setE (setE (setE vE 15 (.bool true)) 8 (.ptr H.length 0)) 5 (.int .i64 0)) 6 (.int .i64 (sumT vals (l.take i) + l[i].2 * x))) 7 (.int .i64 ((i : Int) + 1)), H ++ [.cells [.int .i64 l[i].1, .int .i64 l[i].2]], 0, ro⟩, ?_, ?_⟩
    · simp [callBody, zipE, execL_seq, execL_region, execL_cond, execL_skip, execL_ret, execL_exit, execL_block, execOps, wantedA, S_mv, S_pick, S_bin, S_un, S_call0, S_call1, S_extract, S_nilEq, S_load, S_alloc, S_box, S_fieldAddr, S_field, Opd.ev, lookupE, lookE_setE, St.put, unA, boolOf, freezeVs, freezeV, freezeD, isP, isPs, resultsA, resultA, finish, old, olds, flat, movedH_same, Nat.min_self, loadA, readCells, cellsV_int, cO_int, cO_bool, cO_str, cO_list, cO_sref, cO_nil0, cO_emp, cellsOk, B_add, B_mul, B_quo, B_rem, B_eql, B_lss, B_leq, B_geq, B_gtr, B_shr, B_mask, c2, S_len 2, h.t.sl, h.t.len, l1, l2, l7, hi, hb, hwi]
    · rw [if_pos rfl, sumT_succ q]
      exact ⟨rfl, rfl, by rw [List.getElem?_append_left hH]; exact c2, by simp [lookE_setE, l1], by simp [lookE_setE, l2], by simp [lookE_setE], by simp [lookE_setE], by simp [lookE_setE]⟩
  · obtain ⟨c0, c1, c2, l1, l2, l5, l6, l7⟩ := hI
    obtain ⟨tE, vE, H, low, ro⟩ := st
    simp only at c0 c1 c2 l1 l2 l5 l6 l7
    subst c0; subst c1
    rw [List.take_length] at l6
    refine ⟨.exit 0, ⟨[], setE vE 15 (.bool false), H, 0, ro⟩, ?_, by simp, rfl, rfl, c2, by simp [lookE_setE, l2], by simp [lookE_setE, l5], by simp [lookE_setE, l6]⟩
    rw [F23B_for]
    generalize F23B = BB
    simp [callBody, zipE, execL_seq, execL_region, execL_cond, execL_skip, execL_ret, execL_exit, execL_block, execOps, wantedA, S_mv, S_pick, S_bin, S_un, S_call0, S_call1, S_extract, S_nilEq, S_load, S_alloc, S_box, S_fieldAddr, S_field, Opd.ev, lookupE, lookE_setE, St.put, unA, boolOf, freezeVs, freezeV, freezeD, isP, isPs, resultsA, resultA, finish, old, olds, flat, movedH_same, Nat.min_self, loadA, readCells, cellsV_int, cO_int, cO_bool, cO_str, cO_list, cO_sref, cO_nil0, cO_emp, cellsOk, B_add, B_mul, B_quo, B_rem, B_eql, B_lss, B_leq, B_geq, B_gtr, B_shr, B_mask, c2, S_len 2, h.t.sl, h.t.len, l1, l2, l7]

set_option maxHeartbeats 4000000 in
theorem small_s {tab : Nat → Option Fun} (h23 : tab 23 = some (.code F23)) {tv sv : V} {l : List (Int × Int)} {vals : List Int} {b : Int} (h : Row tv sv l vals) (hin : inB l vals.length = true) :
    callL tab (.fn 23 [] []) [.agg [tv, .int .i64 b], sv] [] = some (.bool (decide (sumT vals l ≤ b)), [], 0) := by
  rw [callL_fn, h23, F23_seq]
  obtain ⟨st', r, c1, c2, l2, l5, l6⟩ := small_loop (tab := tab) (b := b) h hin (vE := [(0, .agg [tv, .int .i64 b]), (1, sv), (2, .ptr 0 0), (4, .bool false), (5, .int .i64 0), (6, .int .i64 0), (7, .int .i64 0)]) rfl rfl rfl rfl rfl
  obtain ⟨s1, s2⟩ := h.sum l.length
  rw [List.take_length] at s1 s2
  generalize sumT vals l = S at *
  obtain ⟨tE, vE, H, low, ro⟩ := st'
  simp only at c1 c2 l2 l5 l6
  subst c1
  have hco : cellOk tv = true := slE_cellOk h.t.sl
  have hw : IntKind.i64.wrap (S / 4294967296) = S / 4294967296 := by rw [wrap_small] <;> omega
  rw [← parts_le]
  have r3 : execL tab F23P3 ⟨tE, vE, H, 0, ro⟩ = some (.normal, ⟨[], setE (setE vE 5 (.int .i64 (S / 4294967296))) 6 (.int .i64 (S % 4294967296)), H, 0, ro⟩) := by
    simp [F23P3, callBody, zipE, execL_seq, execL_region, execL_cond, execL_skip, execL_ret, execL_exit, execL_block, execOps, wantedA, S_mv, S_pick, S_bin, S_un, S_call0, S_call1, S_extract, S_nilEq, S_load, S_alloc, S_box, S_fieldAddr, S_field, Opd.ev, lookupE, lookE_setE, St.put, unA, boolOf, freezeVs, freezeV, freezeD, isP, isPs, resultsA, resultA, finish, old, olds, flat, movedH_same, Nat.min_self, loadA, readCells, cellsV_int, cO_int, cO_bool, cO_str, cO_list, cO_sref, cO_nil0, cO_emp, cellsOk, B_add, B_mul, B_quo, B_rem, B_eql, B_lss, B_leq, B_geq, B_gtr, B_shr, B_mask, l5, l6, hw]
  have f2 : lookupE (setE (setE vE 5 (.int .i64 (S / 4294967296))) 6 (.int .i64 (S % 4294967296))) 2 = .ptr 0 0 := by simp [lookE_setE, l2]
  have f5 : lookupE (setE (setE vE 5 (.int .i64 (S / 4294967296))) 6 (.int .i64 (S % 4294967296))) 5 = .int .i64 (S / 4294967296) := by simp [lookE_setE]
  have f6 : lookupE (setE (setE vE 5 (.int .i64 (S / 4294967296))) 6 (.int .i64 (S % 4294967296))) 6 = .int .i64 (S % 4294967296) := by simp [lookE_setE]
  generalize setE (setE vE 5 (.int .i64 (S / 4294967296))) 6 (.int .i64 (S % 4294967296)) = vF at *
  have r4 : execL tab F23P4 ⟨[], vF, H, 0, ro⟩ = some (.normal, ⟨[], setE (setE vF 9 (.int .i64 (b / 4294967296))) 10 (.int .i64 (b % 4294967296)), H, 0, ro⟩) := by
    simp [F23P4, callBody, zipE, execL_seq, execL_region, execL_cond, execL_skip, execL_ret, execL_exit, execL_block, execOps, wantedA, S_mv, S_pick, S_bin, S_un, S_call0, S_call1, S_extract, S_nilEq, S_load, S_alloc, S_box, S_fieldAddr, S_field, Opd.ev, lookupE, lookE_setE, St.put, unA, boolOf, freezeVs, freezeV, freezeD, isP, isPs, resultsA, resultA, finish, old, olds, flat, movedH_same, Nat.min_self, loadA, readCells, cellsV_int, cO_int, cO_bool, cO_str, cO_list, cO_sref, cO_nil0, cO_emp, cellsOk, B_add, B_mul, B_quo, B_rem, B_eql, B_lss, B_leq, B_geq, B_gtr, B_shr, B_mask, f2, c2, inOrder, inOrder0]
  have g5 : lookupE (setE (setE vF 9 (.int .i64 (b / 4294967296))) 10 (.int .i64 (b % 4294967296))) 5 = .int .i64 (S / 4294967296) := by simp [lookE_setE, f5]
  have g6 : lookupE (setE (setE vF 9 (.int .i64 (b / 4294967296))) 10 (.int .i64 (b % 4294967296))) 6 = .int .i64 (S % 4294967296) := by simp [lookE_setE, f6]
  have g9 : lookupE (setE (setE vF 9 (.int .i64 (b / 4294967296))) 10 (.int .i64 (b % 4294967296))) 9 = .int .i64 (b / 4294967296) := by simp [lookE_setE]
  have g10 : lookupE (setE (setE vF 9 (.int .i64 (b / 4294967296))) 10 (.int .i64 (b % 4294967296))) 10 = .int .i64 (b % 4294967296) := by simp [lookE_setE]
  generalize setE (setE vF 9 (.int .i64 (b / 4294967296))) 10 (.int .i64 (b % 4294967296)) = vG at *
  have r5 : execL tab F23P5 ⟨[], vG, H, 0, ro⟩ = some (.normal, ⟨[], setE vG 4 (.bool (decide (S / 4294967296 < b / 4294967296) || S / 4294967296 == b / 4294967296 && decide (S % 4294967296 ≤ b % 4294967296))), H, 0, ro⟩) := by
    cases q1 : decide (S / 4294967296 < b / 4294967296) with
    | true => simp [F23P5, callBody, zipE, execL_seq, execL_region, execL_cond, execL_skip, execL_ret, execL_exit, execL_block, execOps, wantedA, S_mv, S_pick, S_bin, S_un, S_call0, S_call1, S_extract, S_nilEq, S_load, S_alloc, S_box, S_fieldAddr, S_field, Opd.ev, lookupE, lookE_setE, St.put, unA, boolOf, freezeVs, freezeV, freezeD, isP, isPs, resultsA, resultA, finish, old, olds, flat, movedH_same, Nat.min_self, loadA, readCells, cellsV_int, cO_int, cO_bool, cO_str, cO_list, cO_sref, cO_nil0, cO_emp, cellsOk, B_add, B_mul, B_quo, B_rem, B_eql, B_lss, B_leq, B_geq, B_gtr, B_shr, B_mask, g5, g6, g9, g10, q1]
    | false =>
      cases q2 : (S / 4294967296 == b / 4294967296) with
      | true => simp [F23P5, callBody, zipE, execL_seq, execL_region, execL_cond, execL_skip, execL_ret, execL_exit, execL_block, execOps, wantedA, S_mv, S_pick, S_bin, S_un, S_call0, S_call1, S_extract, S_nilEq, S_load, S_alloc, S_box, S_fieldAddr, S_field, Opd.ev, lookupE, lookE_setE, St.put, unA, boolOf, freezeVs, freezeV, freezeD, isP, isPs, resultsA, resultA, finish, old, olds, flat, movedH_same, Nat.min_self, loadA, readCells, cellsV_int, cO_int, cO_bool, cO_str, cO_list, cO_sref, cO_nil0, cO_emp, cellsOk, B_add, B_mul, B_quo, B_rem, B_eql, B_lss, B_leq, B_geq, B_gtr, B_shr, B_mask, g5, g6, g9, g10, q1, q2]
      | false => simp [F23P5, callBody, zipE, execL_seq, execL_region, execL_cond, execL_skip, execL_ret, execL_exit, execL_block, execOps, wantedA, S_mv, S_pick, S_bin, S_un, S_call0, S_call1, S_extract, S_nilEq, S_load, S_alloc, S_box, S_fieldAddr, S_field, Opd.ev, lookupE, lookE_setE, St.put, unA, boolOf, freezeVs, freezeV, freezeD, isP, isPs, resultsA, resultA, finish, old, olds, flat, movedH_same, Nat.min_self, loadA, readCells, cellsV_int, cO_int, cO_bool, cO_str, cO_list, cO_sref, cO_nil0, cO_emp, cellsOk, B_add, B_mul, B_quo, B_rem, B_eql, B_lss, B_leq, B_geq, B_gtr, B_shr, B_mask, g5, g6, g9, g10, q1, q2]
  generalize F23P3 = R3 at *
  generalize F23P4 = R4 at *
  generalize F23P5 = R5 at *
  simp [F23P0, F23P1, F23P2, F23P6, callBody, zipE, execL_seq, execL_region, execL_cond, execL_skip, execL_ret, execL_exit, execL_block, execOps, wantedA, S_mv, S_pick, S_bin, S_un, S_call0, S_call1, S_extract, S_nilEq, S_load, S_alloc, S_box, S_fieldAddr, S_field, Opd.ev, lookupE, lookE_setE, St.put, unA, boolOf, freezeVs, freezeV, freezeD, isP, isPs, resultsA, resultA, finish, old, olds, flat, movedH_same, Nat.min_self, loadA, readCells, cellsV_int, cO_int, cO_bool, cO_str, cO_list, cO_sref, cO_nil0, cO_emp, cellsOk, B_add, B_mul, B_quo, B_rem, B_eql, B_lss, B_leq, B_geq, B_gtr, B_shr, B_mask, setE, hco, cellsV, r, r3, r4, r5]
end Go.Abs.T12
/- ConstraintHolds: constraint.Holds at a row. -/
namespace Go.Abs.T12
open Go Go.Abs Go.Abs.Cyc
set_option linter.unusedSimpArgs false

def F8L0Q0 : ACode := .region [⟨some (29, false), .indexAddr 2 (.var 25) (.var 27), none⟩, ⟨some (30, false), .load (some 2) (.tmp 29), none⟩, ⟨some (8, true), .alloc [.int .i64 0, .int .i64 0], none⟩, ⟨none, .store 2 (.var 8) (.tmp 30), none⟩] none
def F8L0Q1 : ACode := .seq (.region [⟨some (31, false), .fieldAddr 0 (.var 8), none⟩, ⟨some (32, false), .load none (.tmp 31), none⟩, ⟨some (33, false), .bin .lss (.tmp 32) (.const (.int .i64 0)), none⟩, ⟨some (34, false), .mv (.tmp 33), none⟩, ⟨some (35, false), .fieldAddr 0 (.var 8), some ((.tmp 34), false)⟩, ⟨some (36, false), .load none (.tmp 35), some ((.tmp 34), false)⟩, ⟨some (37, false), .mv (.var 1), some ((.tmp 34), false)⟩, ⟨some (38, false), .len 1 (.tmp 37), some ((.tmp 34), false)⟩, ⟨some (39, false), .bin .geq (.tmp 36) (.tmp 38), some ((.tmp 34), false)⟩, ⟨some (40, true), .pick (.tmp 34) (.const (.bool true)) (.tmp 39), none⟩] none) (.cond (.var 40) (.seq (.region [⟨some (4, true), .mv (.const (.bool false)), none⟩] none) (.ret)) (.skip))
def F8L0Q2 : ACode := .region [⟨some (41, false), .mv (.var 5), none⟩, ⟨some (42, false), .fieldAddr 1 (.var 8), none⟩, ⟨some (43, false), .load none (.tmp 42), none⟩, ⟨some (44, false), .mv (.var 1), none⟩, ⟨some (45, false), .fieldAddr 0 (.var 8), none⟩, ⟨some (46, false), .load none (.tmp 45), none⟩, ⟨some (47, false), .indexAddr 1 (.tmp 44) (.tmp 46), none⟩, ⟨some (48, false), .load none (.tmp 47), none⟩, ⟨some (49, false), .bin .quo (.tmp 48) (.const (.int .i64 4294967296)), none⟩, ⟨some (50, false), .bin .mul (.tmp 43) (.tmp 49), none⟩, ⟨some (51, false), .bin .add (.tmp 41) (.tmp 50), none⟩, ⟨some (52, false), .mv (.var 6), none⟩, ⟨some (53, false), .fieldAddr 1 (.var 8), none⟩, ⟨some (54, false), .load none (.tmp 53), none⟩, ⟨some (55, false), .mv (.var 1), none⟩, ⟨some (56, false), .fieldAddr 0 (.var 8), none⟩, ⟨some (57, false), .load none (.tmp 56), none⟩, ⟨some (58, false), .indexAddr 1 (.tmp 55) (.tmp 57), none⟩, ⟨some (59, false), .load none (.tmp 58), none⟩, ⟨some (60, false), .bin .rem (.tmp 59) (.const (.int .i64 4294967296)), none⟩, ⟨some (61, false), .bin .mul (.tmp 54) (.tmp 60), none⟩, ⟨some (62, false), .bin .add (.tmp 52) (.tmp 61), none⟩, ⟨some (5, true), .mv (.tmp 51), none⟩, ⟨some (6, true), .mv (.tmp 62), none⟩] (some [0, 0, 2, 0, 0, 16, 56, 120, 248, 510, 1023, 0, 0, 4096, 0, 0, 32768, 114688, 245760, 507904, 1044480, 2095104, 2047, 8388607])
theorem F8L0_seq : F8L0 = .seq F8L0Q0 (.seq F8L0Q1 F8L0Q2) := rfl

set_option maxHeartbeats 4000000 in
theorem holds_lay {tab : Nat → Option Fun} {tv : V} {l : List (Int × Int)} (ht : VT tv l) {i : Nat} {p : Int × Int} (hx : l[i]? = some p) {vE : Env} {H : Heap} {ro : Option Nat}
    (e25 : lookupE vE 25 = tv) (e27 : lookupE vE 27 = .int .i64 i) : execL tab F8L0Q0 ⟨[], vE, H, 0, ro⟩ = some (.normal, ⟨[], setE vE 8 (.ptr H.length 0), H ++ [.cells [.int .i64 p.1, .int .i64 p.2]], 0, ro⟩) := by
  have hg := ht.get hx
  simp [F8L0Q0, callBody, zipE, execL_seq, execL_region, execL_cond, execL_skip, execL_ret, execL_exit, execL_block, execOps, wantedA, S_mv, S_pick, S_bin, S_un, S_call0, S_call1, S_extract, S_nilEq, S_load, S_alloc, S_box, S_fieldAddr, S_field, Opd.ev, lookupE, lookE_setE, St.put, unA, boolOf, freezeVs, freezeV, freezeD, isP, isPs, resultsA, resultA, finish, old, olds, flat, movedH_same, Nat.min_self, loadA, readCells, cellsV_int, cO_int, cO_bool, cO_str, cO_list, cO_sref, cO_nil0, cO_emp, cellsOk, B_add, B_mul, B_quo, B_rem, B_eql, B_lss, B_leq, B_geq, B_gtr, B_shr, B_mask, e25, e27, S_index, ht.sl, hg, cellsV_tm, S_store, store_cells]

set_option maxHeartbeats 4000000 in
theorem holds_guard {tab : Nat → Option Fun} {sv : V} {vals : List Int} (hv : VL sv vals) {p : Int × Int} {vE : Env} {H : Heap} {ro : Option Nat}
    (e1 : lookupE vE 1 = sv) (e8 : lookupE vE 8 = .ptr H.length 0) (bb : Bool) (hbb : (decide (p.1 < 0) || decide ((vals.length : Int) ≤ p.1)) = bb) :
    execL tab F8L0Q1 ⟨[], vE, H ++ [.cells [.int .i64 p.1, .int .i64 p.2]], 0, ro⟩ = some (if bb then .ret else .normal, ⟨[], if bb then setE (setE vE 40 (.bool true)) 4 (.bool false) else setE vE 40 (.bool false), H ++ [.cells [.int .i64 p.1, .int .i64 p.2]], 0, ro⟩) := by
  by_cases hneg : p.1 < 0
  · have : bb = true := by simpa [hneg] using hbb.symm
    subst this
    simp [F8L0Q1, callBody, zipE, execL_seq, execL_region, execL_cond, execL_skip, execL_ret, execL_exit, execL_block, execOps, wantedA, S_mv, S_pick, S_bin, S_un, S_call0, S_call1, S_extract, S_nilEq, S_load, S_alloc, S_box, S_fieldAddr, S_field, Opd.ev, lookupE, lookE_setE, St.put, unA, boolOf, freezeVs, freezeV, freezeD, isP, isPs, resultsA, resultA, finish, old, olds, flat, movedH_same, Nat.min_self, loadA, readCells, cellsV_int, cO_int, cO_bool, cO_str, cO_list, cO_sref, cO_nil0, cO_emp, cellsOk, B_add, B_mul, B_quo, B_rem, B_eql, B_lss, B_leq, B_geq, B_gtr, B_shr, B_mask, e1, e8, get_last, S_len 1, hv.sl, hv.len, hneg, movedH_app]
  · by_cases hbig : (vals.length : Int) ≤ p.1
    · have : bb = true := by simpa [hbig] using hbb.symm
      subst this
      simp [F8L0Q1, callBody, zipE, execL_seq, execL_region, execL_cond, execL_skip, execL_ret, execL_exit, execL_block, execOps, wantedA, S_mv, S_pick, S_bin, S_un, S_call0, S_call1, S_extract, S_nilEq, S_load, S_alloc, S_box, S_fieldAddr, S_field, Opd.ev, lookupE, lookE_setE, St.put, unA, boolOf, freezeVs, freezeV, freezeD, isP, isPs, resultsA, resultA, finish, old, olds, flat, movedH_same, Nat.min_self, loadA, readCells, cellsV_int, cO_int, cO_bool, cO_str, cO_list, cO_sref, cO_nil0, cO_emp, cellsOk, B_add, B_mul, B_quo, B_rem, B_eql, B_lss, B_leq, B_geq, B_gtr, B_shr, B_mask, e1, e8, get_last, S_len 1, hv.sl, hv.len, hneg, hbig, movedH_app]
    · have : bb = false := by simpa [hneg, hbig] using hbb.symm
      subst this
      simp [F8L0Q1, callBody, zipE, execL_seq, execL_region, execL_cond, execL_skip, execL_ret, execL_exit, execL_block, execOps, wantedA, S_mv, S_pick, S_bin, S_un, S_call0, S_call1, S_extract, S_nilEq, S_load, S_alloc, S_box, S_fieldAddr, S_field, Opd.ev, lookupE, lookE_setE, St.put, unA, boolOf, freezeVs, freezeV, freezeD, isP, isPs, resultsA, resultA, finish, old, olds, flat, movedH_same, Nat.min_self, loadA, readCells, cellsV_int, cO_int, cO_bool, cO_str, cO_list, cO_sref, cO_nil0, cO_emp, cellsOk, B_add, B_mul, B_quo, B_rem, B_eql, B_lss, B_leq, B_geq, B_gtr, B_shr, B_mask, e1, e8, get_last, S_len 1, hv.sl, hv.len, hneg, hbig, movedH_app]

set_option maxHeartbeats 4000000 in
theorem holds_sum {tab : Nat → Option Fun} {sv : V} {l : List (Int × Int)} {vals : List Int} {S : Int} (hv : VL sv vals) {i : Nat} {p : Int × Int} {x : Int} (q : Tm l vals i p x) {vE : Env} {H : Heap} {ro : Option Nat}
    (e1 : lookupE vE 1 = sv) (e5 : lookupE vE 5 = .int .i64 0) (e6 : lookupE vE 6 = .int .i64 S) (e8 : lookupE vE 8 = .ptr H.length 0) (hS1 : -1000000000000000 ≤ S) (hS2 : S ≤ 1000000000000000) :
    execL tab F8L0Q2 ⟨[], vE, H ++ [.cells [.int .i64 p.1, .int .i64 p.2]], 0, ro⟩ = some (.normal, ⟨[], setE (setE vE 5 (.int .i64 0)) 6 (.int .i64 (S + p.2 * x)), H ++ [.cells [.int .i64 p.1, .int .i64 p.2]], 0, ro⟩) := by
  obtain ⟨hx, hpos, hval, hnf, hnx⟩ := q
  have hgx := hv.get hval
  have hnat : natOf (.int .i64 p.1) = some p.1.toNat := natOf_nonneg _ hpos
  obtain ⟨d1, d2⟩ := small_parts hnx
  have hm := near_mul hnf hnx
  have w1 : IntKind.i64.wrap (p.2 * x) = p.2 * x := by rw [wrap_small] <;> omega
  have w2 : IntKind.i64.wrap (S + p.2 * x) = S + p.2 * x := by rw [wrap_small] <;> omega
  simp [F8L0Q2, callBody, zipE, execL_seq, execL_region, execL_cond, execL_skip, execL_ret, execL_exit, execL_block, execOps, wantedA, S_mv, S_pick, S_bin, S_un, S_call0, S_call1, S_extract, S_nilEq, S_load, S_alloc, S_box, S_fieldAddr, S_field, Opd.ev, lookupE, lookE_setE, St.put, unA, boolOf, freezeVs, freezeV, freezeD, isP, isPs, resultsA, resultA, finish, old, olds, flat, movedH_same, Nat.min_self, loadA, readCells, cellsV_int, cO_int, cO_bool, cO_str, cO_list, cO_sref, cO_nil0, cO_emp, cellsOk, B_add, B_mul, B_quo, B_rem, B_eql, B_lss, B_leq, B_geq, B_gtr, B_shr, B_mask, e1, e5, e6, e8, get_last, S_index, hv.sl, hgx, hnat, d1, d2, zero_wrap, w1, w2, movedH_app, inOrder, inOrder0]

set_option maxHeartbeats 4000000 in
theorem holds_loop {tab : Nat → Option Fun} {k fam b f s : Int} {tv sv : V} {l : List (Int × Int)} {vals : List Int} (h : Row tv sv l vals) {vE : Env}
    (e1 : lookupE vE 1 = sv) (e2 : lookupE vE 2 = .ptr 0 0) (e5 : lookupE vE 5 = .int .i64 0) (e6 : lookupE vE 6 = .int .i64 0) (e25 : lookupE vE 25 = tv) (e26 : lookupE vE 26 = .int .i64 l.length) (e27 : lookupE vE 27 = .int .i64 0) :
    ∃ x st', execL tab (.loop (rangeBody 28 26 27 63 1 0 F8L0)) ⟨[], vE, [.cells (con k fam tv b f s)], 0, none⟩ = some (x, st') ∧ st'.low = 0 ∧ st'.H[0]? = some (.cells (con k fam tv b f s)) ∧
      ((x = .exit 0 ∧ inB l vals.length = true ∧ lookupE st'.vE 2 = .ptr 0 0 ∧ lookupE st'.vE 5 = .int .i64 0 ∧ lookupE st'.vE 6 = .int .i64 (sumT vals l)) ∨ (x = .ret ∧ inB l vals.length = false ∧ lookupE st'.vE 4 = .bool false)) := by
  refine range_loop (tab := tab) (b := 28) (n := 26) (i := 27) (t := 63) (blk := 1) (ex := 0) (body := F8L0) (N := l.length)
    (I := fun i st => st.low = 0 ∧ st.H[0]? = some (.cells (con k fam tv b f s)) ∧ lookupE st.vE 1 = sv ∧ lookupE st.vE 2 = .ptr 0 0 ∧ lookupE st.vE 5 = .int .i64 0 ∧ lookupE st.vE 6 = .int .i64 (sumT vals (l.take i)) ∧ lookupE st.vE 25 = tv ∧ lookupE st.vE 26 = .int .i64 l.length ∧ lookupE st.vE 27 = .int .i64 i ∧ inB (l.take i) vals.length = true)
    (Q := fun x st => st.low = 0 ∧ st.H[0]? = some (.cells (con k fam tv b f s)) ∧
      ((x = .exit 0 ∧ inB l vals.length = true ∧ lookupE st.vE 2 = .ptr 0 0 ∧ lookupE st.vE 5 = .int .i64 0 ∧ lookupE st.vE 6 = .int .i64 (sumT vals l)) ∨ (x = .ret ∧ inB l vals.length = false ∧ lookupE st.vE 4 = .bool false)))
    h.t.lt (by decide) (by decide) (fun i st hI => ⟨hI.2.2.2.2.2.2.2.2.1, hI.2.2.2.2.2.2.2.1, by rw [hI.1]; exact Nat.zero_le _⟩) (fun i st hi hI => ?_) (fun st hI => ?_) l.length 0 ⟨[], vE, [.cells (con k fam tv b f s)], 0, none⟩ (by omega) ⟨rfl, rfl, e1, e2, e5, e6, e25, e26, e27, rfl⟩
  · obtain ⟨c1, c2, l1, l2, l5, l6, l25, l26, l27, hn⟩ := hI
    obtain ⟨tE, vE, H, low, ro⟩ := st
    simp only at c1 c2 l1 l2 l5 l6 l25 l26 l27
    subst c1
    have hH : 0 < H.length := by
      rcases Nat.eq_zero_or_pos H.length with e | e
      · rw [List.length_eq_zero_iff.1 e] at c2; cases c2
      · exact e
    have hx : l[i]? = some l[i] := by simp
    obtain ⟨s1, s2⟩ := h.sum i
    have r0 := holds_lay (tab := tab) h.t hx (vE := setE vE 28 (.bool true)) (H := H) (ro := ro) (by simp [lookE_setE, l25]) (by simp [lookE_setE, l27])
    have r1 := holds_guard (tab := tab) h.v (p := l[i]) (vE := setE (setE vE 28 (.bool true)) 8 (.ptr H.length 0)) (H := H) (ro := ro) (by simp [lookE_setE, l1]) (by simp [lookE_setE]) _ rfl
    have hH0 : (H ++ [AObj.cells [.int .i64 l[i].1, .int .i64 l[i].2]])[0]? = some (.cells (con k fam tv b f s)) := by rw [List.getElem?_append_left hH]; exact c2
    cases hbb : (decide (l[i].1 < 0) || decide ((vals.length : Int) ≤ l[i].1)) with
    | true =>
      rw [hbb] at r1
      refine ⟨.ret, ⟨[], setE (setE (setE (setE vE 28 (.bool true)) 8 (.ptr H.length 0)) 40 (.bool true)) 4 (.bool false), H ++ [.cells [.int .i64 l[i].1, .int .i64 l[i].2]], 0, ro⟩, ?_, ?_⟩
      · rw [F8L0_seq, execL_seq, r0]
        simp only []
        rw [execL_seq, r1]
        rfl
      · rw [if_neg (by simp)]
        refine ⟨rfl, hH0, .inr ⟨rfl, ?_, by simp [lookE_setE]⟩⟩
        unfold inB
        rw [List.all_eq_false]
        refine ⟨l[i], List.getElem_mem hi, ?_⟩
        simp only [Bool.or_eq_true, decide_eq_true_eq] at hbb
        simp only [Bool.and_eq_true, decide_eq_true_eq]
        omega
    | false =>
      rw [hbb] at r1
      have hin : 0 ≤ l[i].1 ∧ l[i].1 < (vals.length : Int) := by
        simp only [Bool.or_eq_false_iff, decide_eq_false_iff_not] at hbb
        omega
      obtain ⟨x, q⟩ := h.tm hi hin
      have r2 := holds_sum (tab := tab) h.v q (S := sumT vals (l.take i)) (vE := setE (setE (setE vE 28 (.bool true)) 8 (.ptr H.length 0)) 40 (.bool false)) (H := H) (ro := ro) (by simp [lookE_setE, l1]) (by simp [lookE_setE, l5]) (by simp [lookE_setE, l6]) (by simp [lookE_setE]) (by omega) (by omega)
      refine ⟨.normal, ⟨[], setE (setE (setE (setE (setE vE 28 (.bool true)) 8 (.ptr H.length 0)) 40 (.bool false)) 5 (.int .i64 0)) 6 (.int .i64 (sumT vals (l.take i) + l[i].2 * x)), H ++ [.cells [.int .i64 l[i].1, .int .i64 l[i].2]], 0, ro⟩, ?_, ?_⟩
      · rw [F8L0_seq, execL_seq, r0]
        simp only []
        rw [execL_seq, r1]
        simp only [Bool.false_eq_true, if_false]
        exact r2
      · rw [if_pos (.inl rfl), sumT_succ q]
        refine ⟨by simp [lookE_setE, l27], Nat.zero_le _, rfl, hH0, by simp [lookE_setE, l1], by simp [lookE_setE, l2], by simp [lookE_setE], by simp [lookE_setE], by simp [lookE_setE, l25], by simp [lookE_setE, l26], by simp [lookE_setE], ?_⟩
        unfold inB at hn ⊢
        rw [List.take_add_one, hx, List.all_append, hn]
        simp
        omega
  · obtain ⟨c1, c2, l1, l2, l5, l6, l25, l26, l27, hn⟩ := hI
    rw [List.take_length] at l6 hn
    exact ⟨c1, c2, .inl ⟨rfl, hn, by simp [lookE_setE, l2], by simp [lookE_setE, l5], by simp [lookE_setE, l6]⟩⟩

structure Th2 (tab : Nat → Option Fun) : Prop where
  h21 : ∃ spec, tab 21 = some (.ext spec) ∧ ∀ lo b : Int, -4611686018427387904 ≤ lo → lo < 4611686018427387904 → spec [.int .i64 0, .int .i64 lo, .int .i64 b] = some (.bool (decide (lo ≤ b)))

set_option maxHeartbeats 4000000 in
theorem holds_b {tab : Nat → Option Fun} (T : Th2 tab) (h8 : tab 8 = some (.code F8)) {k fam b f s : Int} (hk : k ≠ 1) {tv sv : V} {l : List (Int × Int)} {vals : List Int} (h : Row tv sv l vals) :
    callL tab (.fn 8 [] []) [.agg (con k fam tv b f s), sv] [] = some (.bool (inB l vals.length && decide (k = 0) && decide (sumT vals l ≤ b)), [], 0) := by
  obtain ⟨spec, hspec, hs⟩ := T.h21
  rw [callL_fn, h8, F8_seq]
  obtain ⟨s1, s2⟩ := h.sum l.length
  rw [List.take_length] at s1 s2
  have hcall : ∀ H, callL tab (.fn 21 [] []) [.int .i64 0, .int .i64 (sumT vals l), .int .i64 b] H = some (.bool (decide (sumT vals l ≤ b)), H, H.length) := fun H => callL_word hspec rfl (hs _ _ (by omega) (by omega)) H
  obtain ⟨x, st', r, c1, c2, hq⟩ := holds_loop (tab := tab) (k := k) (fam := fam) (b := b) (f := f) (s := s) h (vE := [(0, .agg (con k fam tv b f s)), (1, sv), (2, .ptr 0 0), (4, .bool false), (11, .bool false), (5, .int .i64 0), (6, .int .i64 0), (25, tv), (26, .int .i64 l.length), (27, .int .i64 0)]) rfl rfl rfl rfl rfl rfl rfl
  have hc : cellsOk (con k fam tv b f s) = true := con_ok (slE_cellOk h.t.sl)
  have hk1 : (k == 1) = false := beq_eq_false_iff_ne.2 hk
  generalize sumT vals l = S at *
  obtain ⟨tE, vE, H, low, ro⟩ := st'
  simp only at c1 c2 hq
  subst c1
  have p1 : execL tab F8P1 ⟨[], [(0, .agg (con k fam tv b f s)), (1, sv), (2, .ptr 0 0), (4, .bool false)], [.cells (con k fam tv b f s)], 0, none⟩ = some (.normal, ⟨[], [(0, .agg (con k fam tv b f s)), (1, sv), (2, .ptr 0 0), (4, .bool false), (11, .bool false)], [.cells (con k fam tv b f s)], 0, none⟩) := by
    unfold F8P1
    rw [execL_seq, execL_region]
    simp [execOps, wantedA, S_fieldAddr, S_load, loadA, readCells, S_bin, Opd.ev, lookupE, con_g0, B_eql, hk1, St.put, setE, execL_cond, boolOf, execL_skip]
  generalize F8P1 = R1 at *
  rcases hq with ⟨rfl, hin, e2, e5, e6⟩ | ⟨rfl, hin, e4⟩
  · rw [hin]
    have p4 : execL tab F8P4 ⟨tE, vE, H, 0, ro⟩ = some (.normal, ⟨[], setE vE 4 (.bool (decide (k = 0) && decide (S ≤ b))), H, 0, ro⟩) := by
      by_cases h0 : k = 0
      · subst h0
        simp [F8P4, callBody, zipE, execL_seq, execL_region, execL_cond, execL_skip, execL_ret, execL_exit, execL_block, execOps, wantedA, S_mv, S_pick, S_bin, S_un, S_call0, S_call1, S_extract, S_nilEq, S_load, S_alloc, S_box, S_fieldAddr, S_field, Opd.ev, lookupE, lookE_setE, St.put, unA, boolOf, freezeVs, freezeV, freezeD, isP, isPs, resultsA, resultA, finish, old, olds, flat, movedH_same, Nat.min_self, loadA, readCells, cellsV_int, cO_int, cO_bool, cO_str, cO_list, cO_sref, cO_nil0, cO_emp, cellsOk, B_add, B_mul, B_quo, B_rem, B_eql, B_lss, B_leq, B_geq, B_gtr, B_shr, B_mask, e2, e5, e6, c2, con_g0, con_g3, hcall]
      · have hb0 : (k == 0) = false := beq_eq_false_iff_ne.2 h0
        simp [F8P4, callBody, zipE, execL_seq, execL_region, execL_cond, execL_skip, execL_ret, execL_exit, execL_block, execOps, wantedA, S_mv, S_pick, S_bin, S_un, S_call0, S_call1, S_extract, S_nilEq, S_load, S_alloc, S_box, S_fieldAddr, S_field, Opd.ev, lookupE, lookE_setE, St.put, unA, boolOf, freezeVs, freezeV, freezeD, isP, isPs, resultsA, resultA, finish, old, olds, flat, movedH_same, Nat.min_self, loadA, readCells, cellsV_int, cO_int, cO_bool, cO_str, cO_list, cO_sref, cO_nil0, cO_emp, cellsOk, B_add, B_mul, B_quo, B_rem, B_eql, B_lss, B_leq, B_geq, B_gtr, B_shr, B_mask, e2, e5, e6, c2, con_g0, con_g3, hb0, h0]
    generalize F8P4 = R4 at *
    simp [F8P0, F8P2, F8P3, F8P5, callBody, zipE, execL_seq, execL_region, execL_cond, execL_skip, execL_ret, execL_exit, execL_block, execOps, wantedA, S_mv, S_pick, S_bin, S_un, S_call0, S_call1, S_extract, S_nilEq, S_load, S_alloc, S_box, S_fieldAddr, S_field, Opd.ev, lookupE, lookE_setE, St.put, unA, boolOf, freezeVs, freezeV, freezeD, isP, isPs, resultsA, resultA, finish, old, olds, flat, movedH_same, Nat.min_self, loadA, readCells, cellsV_int, cO_int, cO_bool, cO_str, cO_list, cO_sref, cO_nil0, cO_emp, cellsOk, B_add, B_mul, B_quo, B_rem, B_eql, B_lss, B_leq, B_geq, B_gtr, B_shr, B_mask, setE, hc, cellsV, con_g2, p1, p4, S_len 2, h.t.sl, h.t.len, r]
  · rw [hin]
    generalize F8P4 = R4 at *
    simp [F8P0, F8P2, F8P3, F8P5, callBody, zipE, execL_seq, execL_region, execL_cond, execL_skip, execL_ret, execL_exit, execL_block, execOps, wantedA, S_mv, S_pick, S_bin, S_un, S_call0, S_call1, S_extract, S_nilEq, S_load, S_alloc, S_box, S_fieldAddr, S_field, Opd.ev, lookupE, lookE_setE, St.put, unA, boolOf, freezeVs, freezeV, freezeD, isP, isPs, resultsA, resultA, finish, old, olds, flat, movedH_same, Nat.min_self, loadA, readCells, cellsV_int, cO_int, cO_bool, cO_str, cO_list, cO_sref, cO_nil0, cO_emp, cellsOk, B_add, B_mul, B_quo, B_rem, B_eql, B_lss, B_leq, B_geq, B_gtr, B_shr, B_mask, setE, hc, cellsV, con_g2, p1, S_len 2, h.t.sl, h.t.len, r, e4]
end Go.Abs.T12
/- ConstraintHolds: the reference's edge, and whether a path has an element. -/
namespace Go.Abs.T12
open Go Go.Abs Go.Abs.Cyc
set_option linter.unusedSimpArgs false

set_option maxHeartbeats 1000000 in
theorem edge2_s {tab : Nat → Option Fun} (h41 : tab 41 = some (.code F41)) {k fam bd : Int} {t sv : V} {f s : Nat} {vals : List Int} (g : Gr k fam t bd f s sv vals) {a b : Nat} (ha : a < s) (hb : b < s) :
    callL tab (.fn 41 [] []) [.agg (con k fam t bd f s), sv, .int .i64 a, .int .i64 b] [] = some (.bool (edgeB vals f s a b), [], 0) := by
  rw [callL_fn, h41]
  have hi := idx_lt ha hb
  have hr := g.room
  have hl := g.sv.lt
  have has : a * s < 4611686018427387904 := by omega
  have hw1 : IntKind.i64.wrap ((a : Int) * (s : Int)) = (a : Int) * (s : Int) := by
    rw [wrap_small] <;> rw [← Int.natCast_mul] <;> omega
  have hw2 : IntKind.i64.wrap ((f : Int) + (a : Int) * (s : Int)) = (f : Int) + (a : Int) * (s : Int) := by
    rw [wrap_small] <;> rw [← Int.natCast_mul] <;> omega
  have hw3 : IntKind.i64.wrap ((f : Int) + (a : Int) * (s : Int) + (b : Int)) = (f : Int) + (a : Int) * (s : Int) + (b : Int) := by
    rw [wrap_small] <;> rw [← Int.natCast_mul] <;> omega
  have hN : natOf (.int .i64 ((f : Int) + (a : Int) * (s : Int) + (b : Int))) = some (f + a * s + b) := by
    have : ((f : Int) + (a : Int) * (s : Int) + (b : Int)) = ((f + a * s + b : Nat) : Int) := by push_cast; rfl
    rw [this, natOf_cast]
  have hlt : f + a * s + b < vals.length := by omega
  have hx : vals[f + a * s + b]? = some vals[f + a * s + b] := by simp
  have hg := g.sv.get hx
  have he : edgeB vals f s a b = decide (1 ≤ vals[f + a * s + b]) := by
    unfold edgeB
    rw [List.getD_eq_getElem?_getD, hx]; rfl
  have hc : cellsOk (con k fam t bd f s) = true := con_ok g.t
  simp [F41, callBody, zipE, execL_seq, execL_region, execL_cond, execL_skip, execL_ret, execL_exit, execL_block, execOps, wantedA, S_mv, S_pick, S_bin, S_un, S_call0, S_call1, S_extract, S_nilEq, S_load, S_alloc, S_box, S_fieldAddr, S_field, Opd.ev, lookupE, lookE_setE, St.put, binA, unA, boolOf, freezeVs, freezeV, freezeD, isP, isPs, resultsA, resultA, finish, old, olds, flat, movedH_same, Nat.min_self, loadA, readCells, cellsV_int, cO_int, cO_bool, cO_str, cO_list, cO_sref, cO_nil0, cO_emp, cellsOk, setE, cellsV, hc, con_len, con_g4, con_g5, hw1, hw2, hw3, hN, S_index, g.sv.sl, hg, he]

def F42B : ACode := .seq (.region [⟨some (12, false), .mv (.var 0), none⟩, ⟨some (13, false), .mv (.var 5), none⟩, ⟨some (14, false), .indexAddr 1 (.tmp 12) (.tmp 13), none⟩, ⟨some (15, false), .load none (.tmp 14), none⟩, ⟨some (16, false), .mv (.var 1), none⟩, ⟨some (17, true), .bin .eql (.tmp 15) (.tmp 16), none⟩] none) (.cond (.var 17) (.seq (.region [⟨some (4, true), .mv (.const (.bool true)), none⟩] none) (.ret)) (.skip))
theorem F42B_for : F42L0 = forBody 9 5 0 6 7 8 10 11 1 0 F42B := rfl
theorem F42_for : F42 = ⟨18, .seq (.region [⟨some (4, true), .mv (.const (.bool false)), none⟩] none) (.seq (.seq (.region [⟨some (5, true), .mv (.const (.int .i64 0)), none⟩] none) (.block 0 (.loop F42L0))) (.seq (.region [⟨some (4, true), .mv (.const (.bool false)), none⟩] none) (.ret))), [.tmp 4], false⟩ := rfl

set_option maxHeartbeats 1000000 in
theorem has2_s {tab : Nat → Option Fun} (h42 : tab 42 = some (.code F42)) {sv : V} {l : List Int} (h : VL sv l) {v : Int} :
    callL tab (.fn 42 [] []) [sv, .int .i64 v] [] = some (.bool (decide (v ∈ l)), [], 0) := by
  rw [callL_fn, h42]
  obtain ⟨x, st', hl, hq⟩ := for_loop (tab := tab) (b := 9) (i := 5) (xs := 0) (t1 := 6) (t2 := 7) (t3 := 8) (t4 := 10) (t5 := 11) (blk := 1) (ex := 0) (es := 1) (body := F42B) (N := l.length)
    (I := fun k st => st.H = [] ∧ st.low = 0 ∧ lookupE st.vE 0 = sv ∧ lookupE st.vE 1 = .int .i64 v ∧ lookupE st.vE 5 = .int .i64 k ∧ v ∉ l.take k)
    (Q := fun x st => st.H = [] ∧ st.low = 0 ∧ ((x = .exit 0 ∧ v ∉ l) ∨ (x = .ret ∧ v ∈ l ∧ lookupE st.vE 4 = .bool true)))
    h.lt (by decide) (by decide) (by decide) (fun k st hI => ⟨hI.2.2.2.2.1, by rw [hI.2.2.1]; exact h.sl, by rw [hI.2.2.1]; exact h.len, by rw [hI.1, hI.2.1]; exact Nat.le_refl _⟩)
    (fun k st hk hI => by
      obtain ⟨e1, e2, l0, l1, l5, hn⟩ := hI
      obtain ⟨tE, vE, H, low, ro⟩ := st
      simp only at e1 e2 l0 l1 l5
      subst e1; subst e2
      have hx : l[k]? = some l[k] := by simp
      have hg := h.get hx
      by_cases hv : v = l[k]
      · have hb : (l[k] == v) = true := beq_iff_eq.2 hv.symm
        refine ⟨.ret, ⟨[], setE (setE (setE vE 9 (.bool true)) 17 (.bool true)) 4 (.bool true), [], 0, ro⟩, by simp [F42B, callBody, zipE, execL_seq, execL_region, execL_cond, execL_skip, execL_ret, execL_exit, execL_block, execOps, wantedA, S_mv, S_pick, S_bin, S_un, S_call0, S_call1, S_extract, S_nilEq, S_load, S_alloc, S_box, S_fieldAddr, S_field, Opd.ev, lookupE, lookE_setE, St.put, binA, unA, boolOf, freezeVs, freezeV, freezeD, isP, isPs, resultsA, resultA, finish, old, olds, flat, movedH_same, Nat.min_self, loadA, readCells, cellsV_int, cO_int, cO_bool, cO_str, cO_list, cO_sref, cO_nil0, cO_emp, cellsOk, S_index, h.sl, hg, l0, l1, l5, hb], ?_⟩
        rw [if_neg (by simp)]
        exact ⟨rfl, rfl, .inr ⟨rfl, by rw [hv]; exact List.getElem_mem hk, by simp [lookE_setE]⟩⟩
      · have hb : (l[k] == v) = false := beq_eq_false_iff_ne.2 (Ne.symm hv)
        refine ⟨.normal, ⟨[], setE (setE vE 9 (.bool true)) 17 (.bool false), [], 0, ro⟩, by simp [F42B, callBody, zipE, execL_seq, execL_region, execL_cond, execL_skip, execL_ret, execL_exit, execL_block, execOps, wantedA, S_mv, S_pick, S_bin, S_un, S_call0, S_call1, S_extract, S_nilEq, S_load, S_alloc, S_box, S_fieldAddr, S_field, Opd.ev, lookupE, lookE_setE, St.put, binA, unA, boolOf, freezeVs, freezeV, freezeD, isP, isPs, resultsA, resultA, finish, old, olds, flat, movedH_same, Nat.min_self, loadA, readCells, cellsV_int, cO_int, cO_bool, cO_str, cO_list, cO_sref, cO_nil0, cO_emp, cellsOk, S_index, h.sl, hg, l0, l1, l5, hb], ?_⟩
        rw [if_pos (.inl rfl)]
        refine ⟨by simp [lookE_setE, l5], Nat.le_refl _, rfl, rfl, by simp [lookE_setE, l0], by simp [lookE_setE, l1], by simp [lookE_setE], ?_⟩
        intro hm
        rw [List.take_add_one, hx] at hm
        rcases List.mem_append.1 hm with q | q
        · exact hn q
        · exact hv (by simpa using q))
    (fun st hI => by
      obtain ⟨e1, e2, -, -, -, hn⟩ := hI
      rw [List.take_length] at hn
      exact ⟨e1, e2, .inl ⟨rfl, hn⟩⟩)
    l.length 0 ⟨[], [(0, sv), (1, .int .i64 v), (4, .bool false), (5, .int .i64 0)], [], 0, none⟩ (by omega) ⟨rfl, rfl, rfl, rfl, rfl, by simp⟩
  obtain ⟨q1, q2, q3⟩ := hq
  rw [F42_for, F42B_for]
  rcases q3 with ⟨rfl, hn⟩ | ⟨rfl, hm, hk⟩
  · simp [callBody, zipE, execL_seq, execL_region, execL_cond, execL_skip, execL_ret, execL_exit, execL_block, execOps, wantedA, S_mv, S_pick, S_bin, S_un, S_call0, S_call1, S_extract, S_nilEq, S_load, S_alloc, S_box, S_fieldAddr, S_field, Opd.ev, lookupE, lookE_setE, St.put, binA, unA, boolOf, freezeVs, freezeV, freezeD, isP, isPs, resultsA, resultA, finish, old, olds, flat, movedH_same, Nat.min_self, loadA, readCells, cellsV_int, cO_int, cO_bool, cO_str, cO_list, cO_sref, cO_nil0, cO_emp, cellsOk, setE, hl, q1, q2, hn]
  · simp [callBody, zipE, execL_seq, execL_region, execL_cond, execL_skip, execL_ret, execL_exit, execL_block, execOps, wantedA, S_mv, S_pick, S_bin, S_un, S_call0, S_call1, S_extract, S_nilEq, S_load, S_alloc, S_box, S_fieldAddr, S_field, Opd.ev, lookupE, lookE_setE, St.put, binA, unA, boolOf, freezeVs, freezeV, freezeD, isP, isPs, resultsA, resultA, finish, old, olds, flat, movedH_same, Nat.min_self, loadA, readCells, cellsV_int, cO_int, cO_bool, cO_str, cO_list, cO_sref, cO_nil0, cO_emp, cellsOk, setE, hl, q1, q2, hk, hm]
end Go.Abs.T12
/- ConstraintHolds: equal lists; the reference's inside as one word. -/
namespace Go.Abs.T12
open Go Go.Abs Go.Abs.Cyc
set_option linter.unusedSimpArgs false

def F10P0 : ACode := .region [⟨some (4, true), .mv (.const (.bool false)), none⟩] none
def F10P1 : ACode := .seq (.region [⟨some (6, false), .mv (.var 0), none⟩, ⟨some (7, false), .len 1 (.tmp 6), none⟩, ⟨some (8, false), .mv (.var 1), none⟩, ⟨some (9, false), .len 1 (.tmp 8), none⟩, ⟨some (10, true), .bin .neq (.tmp 7) (.tmp 9), none⟩] none) (.cond (.var 10) (.seq (.region [⟨some (4, true), .mv (.const (.bool false)), none⟩] none) (.ret)) (.skip))
def F10P2 : ACode := .seq (.region [⟨some (5, true), .mv (.const (.int .i64 0)), none⟩] none) (.block 0 (.loop F10L0))
def F10P3 : ACode := .region [⟨some (4, true), .mv (.const (.bool true)), none⟩] none
def F10P4 : ACode := .ret
theorem F10_seq : F10 = ⟨26, .seq F10P0 (.seq F10P1 (.seq F10P2 (.seq F10P3 F10P4))), [.tmp 4], false⟩ := rfl
def F10B : ACode := .seq (.region [⟨some (17, false), .mv (.var 0), none⟩, ⟨some (18, false), .mv (.var 5), none⟩, ⟨some (19, false), .indexAddr 1 (.tmp 17) (.tmp 18), none⟩, ⟨some (20, false), .load none (.tmp 19), none⟩, ⟨some (21, false), .mv (.var 1), none⟩, ⟨some (22, false), .mv (.var 5), none⟩, ⟨some (23, false), .indexAddr 1 (.tmp 21) (.tmp 22), none⟩, ⟨some (24, false), .load none (.tmp 23), none⟩, ⟨some (25, true), .bin .neq (.tmp 20) (.tmp 24), none⟩] (some [0, 0, 3, 7, 0, 0, 48, 112, 255])) (.cond (.var 25) (.seq (.region [⟨some (4, true), .mv (.const (.bool false)), none⟩] none) (.ret)) (.skip))
theorem F10B_for : F10L0 = forBody 14 5 0 11 12 13 15 16 1 0 F10B := rfl

set_option maxHeartbeats 2000000 in
theorem ints_s {tab : Nat → Option Fun} (h10 : tab 10 = some (.code F10)) {av bv : V} {l : List Int} (ha : VL av l) (hb : VL bv l) :
    callL tab (.fn 10 [] []) [av, bv] [] = some (.bool true, [], 0) := by
  rw [callL_fn, h10, F10_seq]
  have key : ∃ x st', execL tab (.loop (forBody 14 5 0 11 12 13 15 16 1 0 F10B)) ⟨[], [(0, av), (1, bv), (4, .bool false), (10, .bool false), (5, .int .i64 0)], [], 0, none⟩ = some (x, st') ∧ (x = .exit 0 ∧ st'.H = [] ∧ st'.low = 0) := by
   refine for_loop (tab := tab) (b := 14) (i := 5) (xs := 0) (t1 := 11) (t2 := 12) (t3 := 13) (t4 := 15) (t5 := 16) (blk := 1) (ex := 0) (es := 1) (body := F10B) (N := l.length)
    (I := fun k st => st.H = [] ∧ st.low = 0 ∧ lookupE st.vE 0 = av ∧ lookupE st.vE 1 = bv ∧ lookupE st.vE 5 = .int .i64 k)
    (Q := fun x st => x = .exit 0 ∧ st.H = [] ∧ st.low = 0)
    ha.lt (by decide) (by decide) (by decide) (fun k st hI => ⟨hI.2.2.2.2, by rw [hI.2.2.1]; exact ha.sl, by rw [hI.2.2.1]; exact ha.len, by rw [hI.1, hI.2.1]; exact Nat.le_refl _⟩)
    (fun k st hk hI => by
      obtain ⟨e1, e2, l0, l1, l5⟩ := hI
      obtain ⟨tE, vE, H, low, ro⟩ := st
      simp only at e1 e2 l0 l1 l5
      subst e1; subst e2
      have hx : l[k]? = some l[k] := by simp
      have hg := ha.get hx
      have hg2 := hb.get hx
      refine ⟨.normal, ⟨[], setE (setE vE 14 (.bool true)) 25 (.bool false), [], 0, ro⟩, by simp [F10B, callBody, zipE, execL_seq, execL_region, execL_cond, execL_skip, execL_ret, execL_exit, execL_block, execOps, wantedA, S_mv, S_pick, S_bin, S_un, S_call0, S_call1, S_extract, S_nilEq, S_load, S_alloc, S_box, S_fieldAddr, S_field, Opd.ev, lookupE, lookE_setE, St.put, binA, unA, boolOf, freezeVs, freezeV, freezeD, isP, isPs, resultsA, resultA, finish, old, olds, flat, movedH_same, Nat.min_self, loadA, readCells, cellsV_int, cO_int, cO_bool, cO_str, cO_list, cO_sref, cO_nil0, cO_emp, cellsOk, S_index, ha.sl, hb.sl, hg, hg2, l0, l1, l5, movedH, inOrder, inOrder0], ?_⟩
      rw [if_pos (.inl rfl)]
      exact ⟨by simp [lookE_setE, l5], Nat.le_refl _, rfl, rfl, by simp [lookE_setE, l0], by simp [lookE_setE, l1], by simp [lookE_setE]⟩)
    (fun st hI => ⟨rfl, hI.1, hI.2.1⟩)
    l.length 0 _ (by omega) ⟨rfl, rfl, rfl, rfl, rfl⟩
  obtain ⟨x, st', hl, rfl, q1, q2⟩ := key
  have hl' : execL tab (.loop F10L0) ⟨[], [(0, av), (1, bv), (4, .bool false), (10, .bool false), (5, .int .i64 0)], [], 0, none⟩ = some (.exit 0, st') := hl
  obtain ⟨tE, vE, H, low, ro⟩ := st'
  simp only at q1 q2
  subst q1; subst q2
  simp [F10P0, F10P1, F10P2, F10P3, F10P4, callBody, zipE, execL_seq, execL_region, execL_cond, execL_skip, execL_ret, execL_exit, execL_block, execOps, wantedA, S_mv, S_pick, S_bin, S_un, S_call0, S_call1, S_extract, S_nilEq, S_load, S_alloc, S_box, S_fieldAddr, S_field, Opd.ev, lookupE, lookE_setE, St.put, binA, unA, boolOf, freezeVs, freezeV, freezeD, isP, isPs, resultsA, resultA, finish, old, olds, flat, movedH_same, Nat.min_self, loadA, readCells, cellsV_int, cO_int, cO_bool, cO_str, cO_list, cO_sref, cO_nil0, cO_emp, cellsOk, setE, S_len 1, ha.sl, ha.len, hb.sl, hb.len, hl']

/-- What inside says. -/
def insideB (k f s : Int) (l : List (Int × Int)) (n : Nat) : Bool := if k = 1 then graphB 1 f s n else inB l n && decide (k = 0)
theorem inside_s {tab : Nat → Option Fun} (h22 : tab 22 = some (.code F22)) {k fam b f s : Int} {tv : V} {l : List (Int × Int)} (h : VT tv l) {n : Nat} (hn : n < 4611686018427387904) :
    callL tab (.fn 22 [] []) [.agg (con k fam tv b f s), .int .i64 n] [] = some (.bool (insideB k f s l n), [], 0) := by
  unfold insideB
  by_cases hk : k = 1
  · subst hk
    rw [if_pos rfl]
    exact inside_a h22 (slE_cellOk h.sl) hn
  · rw [if_neg hk]
    exact inside_b h22 hk h
end Go.Abs.T12
/- ConstraintHolds: the reference's paths: one more path laid behind the others. -/
namespace Go.Abs
mutual
theorem eqV_refl : ∀ v : V, eqV v v = true
  | .bool a => by simp [eqV]
  | .int k n => by simp [eqV]
  | .str s => by simp [eqV]
  | .list e ds => by simp [eqV, eqVs_refl ds]
  | .agg a => by simp [eqV, eqVs_refl a]
  | .tup a => by simp [eqV, eqVs_refl a]
  | .ptr _ _ => by simp [eqV]
  | .eptr _ _ _ _ _ => by simp [eqV]
  | .pin vs f => by simp [eqV, eqVs_refl vs]
  | .sref _ _ _ _ _ => by simp [eqV]
  | .map _ => by simp [eqV]
  | .yield _ => by simp [eqV]
  | .fn i a b => by simp [eqV, eqVs_refl a, eqVs_refl b]
  | .iface t v => by simp [eqV, eqV_refl v]
  | .nil0 => rfl
  | .emp => rfl
  | .nilp => rfl
  | .nilm => rfl
  | .nilf => rfl
  | .nili => rfl
  | .undef => rfl
theorem eqVs_refl : ∀ l : List V, eqVs l l = true
  | [] => rfl
  | a :: r => by simp [eqVs, eqV_refl a, eqVs_refl r]
end
end Go.Abs
namespace Go.Abs.T12
open Go Go.Abs Go.Abs.Cyc
set_option linter.unusedSimpArgs false
def F27P0 : ACode := .region [⟨some (4, true), .box (.var 0), none⟩, ⟨some (8, true), .mv (.const (.nil0)), none⟩] none
def F27P1 : ACode := .region [⟨some (12, false), .mv (.var 2), none⟩, ⟨some (13, false), .mv (.var 2), none⟩, ⟨some (14, false), .len 1 (.tmp 13), none⟩, ⟨some (15, false), .bin .sub (.tmp 14) (.const (.int .i64 1)), none⟩, ⟨some (16, false), .indexAddr 1 (.tmp 12) (.tmp 15), none⟩, ⟨some (17, false), .load none (.tmp 16), none⟩, ⟨some (9, true), .mv (.tmp 17), none⟩] none
def F27P2 : ACode := .seq (.region [⟨some (18, false), .mv (.var 2), none⟩, ⟨some (19, false), .len 1 (.tmp 18), none⟩, ⟨some (20, false), .mv (.var 3), none⟩, ⟨some (21, true), .bin .eql (.tmp 19) (.tmp 20), none⟩] none) (.cond (.var 21) (.seq (.seq (.region [⟨some (22, false), .load (some 6) (.var 4), none⟩, ⟨some (23, false), .mv (.var 1), none⟩, ⟨some (24, false), .mv (.var 9), none⟩, ⟨some (25, false), .mv (.var 2), none⟩, ⟨some (26, false), .indexAddr 1 (.tmp 25) (.const (.int .i64 0)), none⟩, ⟨some (27, false), .load none (.tmp 26), none⟩, ⟨some (28, true), .call false (.func 41) [(.tmp 22), (.tmp 23), (.tmp 24), (.tmp 27)], none⟩] (some [0, 0, 0, 0, 8, 24, 63])) (.cond (.var 28) (.seq (.region [⟨some (29, false), .mv (.var 2), none⟩, ⟨some (30, false), .lit 1 [.nil0] 1 [(0, (.tmp 29))] true, none⟩, ⟨some (8, true), .mv (.tmp 30), none⟩] none) (.ret)) (.skip))) (.seq (.region [⟨some (8, true), .mv (.const (.nil0)), none⟩] none) (.ret))) (.skip))
def F27P3 : ACode := .region [⟨some (31, false), .lit 1 [.nil0] 0 [] true, none⟩, ⟨some (10, true), .mv (.tmp 31), none⟩] none
def F27P4 : ACode := .seq (.region [⟨some (32, false), .mv (.var 2), none⟩, ⟨some (33, false), .indexAddr 1 (.tmp 32) (.const (.int .i64 0)), none⟩, ⟨some (34, false), .load none (.tmp 33), none⟩, ⟨some (35, false), .bin .add (.tmp 34) (.const (.int .i64 1)), none⟩, ⟨some (11, true), .mv (.tmp 35), none⟩] none) (.block 0 (.loop F27L0))
def F27P5 : ACode := .region [⟨some (65, false), .mv (.var 10), none⟩, ⟨some (8, true), .mv (.tmp 65), none⟩] none
def F27P6 : ACode := .ret
theorem F27_seq : F27 = ⟨66, .seq F27P0 (.seq F27P1 (.seq F27P2 (.seq F27P3 (.seq F27P4 (.seq F27P5 F27P6))))), [.tmp 8], false⟩ := rfl
def F27B : ACode := .seq (.seq (.region [⟨some (42, false), .mv (.var 2), none⟩, ⟨some (43, false), .mv (.var 11), none⟩, ⟨some (44, false), .call false (.func 42) [(.tmp 42), (.tmp 43)], none⟩, ⟨some (45, false), .mv (.tmp 44), none⟩, ⟨some (46, false), .load (some 6) (.var 4), some ((.tmp 45), false)⟩, ⟨some (47, false), .mv (.var 1), some ((.tmp 45), false)⟩, ⟨some (48, false), .mv (.var 9), some ((.tmp 45), false)⟩, ⟨some (49, false), .mv (.var 11), some ((.tmp 45), false)⟩, ⟨some (50, false), .call false (.func 41) [(.tmp 46), (.tmp 47), (.tmp 48), (.tmp 49)], some ((.tmp 45), false)⟩, ⟨some (51, false), .un .not (.tmp 50), some ((.tmp 45), false)⟩, ⟨some (52, true), .pick (.tmp 45) (.const (.bool true)) (.tmp 51), none⟩] none) (.cond (.var 52) (.exit 1) (.skip))) (.region [⟨some (53, false), .mv (.var 10), none⟩, ⟨some (54, false), .load (some 6) (.var 4), none⟩, ⟨some (55, false), .mv (.var 1), none⟩, ⟨some (56, false), .lit 1 [.int .i64 0] 0 [] true, none⟩, ⟨some (57, false), .mv (.var 2), none⟩, ⟨some (58, false), .append 1 8 (.tmp 56) (.tmp 57), none⟩, ⟨some (59, false), .mv (.var 11), none⟩, ⟨some (60, false), .lit 1 [.int .i64 0] 1 [(0, (.tmp 59))] true, none⟩, ⟨some (61, false), .append 1 8 (.tmp 58) (.tmp 60), none⟩, ⟨some (62, false), .mv (.var 3), none⟩, ⟨some (63, false), .call false (.func 27) [(.tmp 54), (.tmp 55), (.tmp 61), (.tmp 62)], none⟩, ⟨some (64, false), .append 1 24 (.tmp 53) (.tmp 63), none⟩, ⟨some (10, true), .mv (.tmp 64), none⟩] (some [0, 0, 0, 0, 0, 24, 0, 64, 248, 0, 1022, 2047, 4095]))
theorem F27B_for : F27L0 = .seq (.seq (.region [⟨some (36, false), .mv (.var 11), none⟩, ⟨some (37, false), .fieldAddr 5 (.var 4), none⟩, ⟨some (38, false), .load none (.tmp 37), none⟩, ⟨some (39, true), .bin .lss (.tmp 36) (.tmp 38), none⟩] none) (.cond (.var 39) (.skip) (.exit 0))) (.seq (.block 1 F27B) (.region [⟨some (40, false), .mv (.var 11), none⟩, ⟨some (41, false), .bin .add (.tmp 40) (.const (.int .i64 1)), none⟩, ⟨some (11, true), .mv (.tmp 41), none⟩] none)) := rfl
def F27BQ0 : ACode := .seq (.region [⟨some (42, false), .mv (.var 2), none⟩, ⟨some (43, false), .mv (.var 11), none⟩, ⟨some (44, false), .call false (.func 42) [(.tmp 42), (.tmp 43)], none⟩, ⟨some (45, false), .mv (.tmp 44), none⟩, ⟨some (46, false), .load (some 6) (.var 4), some ((.tmp 45), false)⟩, ⟨some (47, false), .mv (.var 1), some ((.tmp 45), false)⟩, ⟨some (48, false), .mv (.var 9), some ((.tmp 45), false)⟩, ⟨some (49, false), .mv (.var 11), some ((.tmp 45), false)⟩, ⟨some (50, false), .call false (.func 41) [(.tmp 46), (.tmp 47), (.tmp 48), (.tmp 49)], some ((.tmp 45), false)⟩, ⟨some (51, false), .un .not (.tmp 50), some ((.tmp 45), false)⟩, ⟨some (52, true), .pick (.tmp 45) (.const (.bool true)) (.tmp 51), none⟩] none) (.cond (.var 52) (.exit 1) (.skip))
def F27BQ1 : ACode := .region [⟨some (53, false), .mv (.var 10), none⟩, ⟨some (54, false), .load (some 6) (.var 4), none⟩, ⟨some (55, false), .mv (.var 1), none⟩, ⟨some (56, false), .lit 1 [.int .i64 0] 0 [] true, none⟩, ⟨some (57, false), .mv (.var 2), none⟩, ⟨some (58, false), .append 1 8 (.tmp 56) (.tmp 57), none⟩, ⟨some (59, false), .mv (.var 11), none⟩, ⟨some (60, false), .lit 1 [.int .i64 0] 1 [(0, (.tmp 59))] true, none⟩, ⟨some (61, false), .append 1 8 (.tmp 58) (.tmp 60), none⟩, ⟨some (62, false), .mv (.var 3), none⟩, ⟨some (63, false), .call false (.func 27) [(.tmp 54), (.tmp 55), (.tmp 61), (.tmp 62)], none⟩, ⟨some (64, false), .append 1 24 (.tmp 53) (.tmp 63), none⟩, ⟨some (10, true), .mv (.tmp 64), none⟩] (some [0, 0, 0, 0, 0, 24, 0, 64, 248, 0, 1022, 2047, 4095])
theorem F27B_seq : F27B = .seq F27BQ0 F27BQ1 := rfl

/-- The operations of the last region of a round. -/
def OPS27 : List AOper := [⟨some (53, false), .mv (.var 10), none⟩, ⟨some (54, false), .load (some 6) (.var 4), none⟩, ⟨some (55, false), .mv (.var 1), none⟩, ⟨some (56, false), .lit 1 [.int .i64 0] 0 [] true, none⟩, ⟨some (57, false), .mv (.var 2), none⟩, ⟨some (58, false), .append 1 8 (.tmp 56) (.tmp 57), none⟩, ⟨some (59, false), .mv (.var 11), none⟩, ⟨some (60, false), .lit 1 [.int .i64 0] 1 [(0, (.tmp 59))] true, none⟩, ⟨some (61, false), .append 1 8 (.tmp 58) (.tmp 60), none⟩, ⟨some (62, false), .mv (.var 3), none⟩, ⟨some (63, false), .call false (.func 27) [(.tmp 54), (.tmp 55), (.tmp 61), (.tmp 62)], none⟩, ⟨some (64, false), .append 1 24 (.tmp 53) (.tmp 63), none⟩, ⟨some (10, true), .mv (.tmp 64), none⟩]
def BEF27 : List Nat := [0, 0, 0, 0, 0, 24, 0, 64, 248, 0, 1022, 2047, 4095]
theorem F27BQ1_ops : F27BQ1 = .region OPS27 (some BEF27) := rfl

def O1 : AOper := ⟨some (54, false), .load (some 6) (.var 4), none⟩
def O3 : AOper := ⟨some (56, false), .lit 1 [.int .i64 0] 0 [] true, none⟩
def O7 : AOper := ⟨some (60, false), .lit 1 [.int .i64 0] 1 [(0, (.tmp 59))] true, none⟩
def O10 : AOper := ⟨some (63, false), .call false (.func 27) [(.tmp 54), (.tmp 55), (.tmp 61), (.tmp 62)], none⟩
def O11 : AOper := ⟨some (64, false), .append 1 24 (.tmp 53) (.tmp 63), none⟩

/-- What is asked where paths have come back. -/
theorem demB (s0 s1 s2 s3 s4 s5 s6 s7 s8 s9 s10 s11 s12 s13 : St) : demands BEF27 OPS27 [false, false, false, false, false, true, false, false, true, false, true, true, false] [s0, s1, s2, s3, s4, s5, s6, s7, s8, s9, s10, s11, s12, s13] =
    [(O1, s1, s0.H), (O1, s1, s6.H), (O1, s1, s9.H), (O3, s3, s0.H), (O7, s7, s0.H), (O7, s7, s6.H)] := rfl
/-- What is asked where none has come back. -/
theorem demA (s0 s1 s2 s3 s4 s5 s6 s7 s8 s9 s10 s11 s12 s13 : St) : demands BEF27 OPS27 [false, false, false, false, false, true, false, false, true, false, false, false, false] [s0, s1, s2, s3, s4, s5, s6, s7, s8, s9, s10, s11, s12, s13] =
    [(O1, s1, s0.H), (O1, s1, s6.H), (O1, s1, s9.H), (O3, s3, s0.H), (O7, s7, s0.H), (O7, s7, s6.H), (O10, s10, s9.H), (O11, s11, s9.H)] := rfl

/-- A row of paths of one's own, or the empty slice. -/
inductive PE (H : Heap) : V → List (List Nat) → Prop
  | no : PE H .emp []
  | ro (l : Nat) (ps : List (List Nat)) (h1 : 1 ≤ l) (hne : ps ≠ []) (hl : H[l]? = some (.row 1 (ps.map enc) false)) : PE H (.sref l 1 0 ps.length ps.length) ps

/-- Paths that came back. -/
def RV (v : V) (L : List (List Nat)) : Prop := (L = [] ∧ (v = .nil0 ∨ v = .emp)) ∨ (L ≠ [] ∧ v = .list 1 (L.map enc))

theorem PE.lt {H : Heap} {v : V} {ps : List (List Nat)} {l : Nat} (hl : H[l]? = some (.row 1 (ps.map enc) false)) : l < H.length := by
  rcases Nat.lt_or_ge l H.length with q | q
  · exact q
  · rw [List.getElem?_eq_none q] at hl; cases hl
theorem PE.push {H : Heap} {v : V} {ps : List (List Nat)} (h : PE H v ps) (o : AObj) : PE (H ++ [o]) v ps := by
  cases h with
  | no => exact .no
  | ro l ps h1 hne hl => exact .ro l ps h1 hne (by rw [List.getElem?_append_left (PE.lt (v := .emp) hl)]; exact hl)

theorem freezeVs_enc (H : Heap) (low : Nat) : ∀ (L : List (List Nat)), freezeVs H low (L.map enc) = some (L.map enc, H, low)
  | [] => rfl
  | a :: r => by
    have := freezeVs_enc H low r
    simp only [List.map_cons, freezeVs, freezeV, freezeD, enc, isP, if_true] at this ⊢
    rw [this]
theorem enc_cellsOk : ∀ (L : List (List Nat)), cellsOk ((L.map enc).flatMap cellsV) = true
  | [] => rfl
  | a :: r => by
    have := enc_cellsOk r
    simp only [List.map_cons, List.flatMap_cons, cellsV_enc, List.cons_append, List.nil_append, cellsOk, Bool.and_eq_true] at this ⊢
    exact ⟨rfl, this⟩

/-- Nothing is laid behind. -/
theorem lay_none {call : CallT} {ev : Opd → V} {H : Heap} {low : Nat} {a b : Opd} {L : List (List Nat)} (ha : PE H (ev a) L) (hb : ev b = .nil0 ∨ ev b = .emp) : stepC call ev H low (.append 1 24 a b) = some (ev a, H, low) := by
  rw [S_append]
  have he : elems H 1 (ev b) = some [] := by rcases hb with e | e <;> rw [e] <;> rfl
  simp only [step, he, freezeVs, List.isEmpty_nil, if_true]
  generalize ev a = v at ha
  cases ha with
  | no => rfl
  | ro l ps h1 hne hl => simp [hl]

/-- Paths are laid behind. -/
theorem lay_some {call : CallT} {ev : Opd → V} {H : Heap} {a b : Opd} {L M : List (List Nat)} (ha : PE H (ev a) L) (hb : ev b = .list 1 (M.map enc)) (hM : M ≠ []) (hH : 1 ≤ H.length) (hn : L.length + M.length ≤ 1000000) :
    ∃ v' H' low', stepC call ev H H.length (.append 1 24 a b) = some (v', H', low') ∧ PE H' v' (L ++ M) ∧ H.length ≤ H'.length ∧ H'[0]? = H[0]? ∧ movedH H H' low' = true := by
  rw [S_append]
  have hem : (M.map enc).isEmpty = false := by cases M with
    | nil => exact absurd rfl hM
    | cons => rfl
  have hc := enc_cellsOk M
  generalize hv : ev a = v at ha
  cases ha with
  | no =>
    have h2 : M.length * (24 + 1) ≤ 2 ^ 40 := by simp at hn; omega
    refine ⟨.sref H.length 1 0 M.length M.length, H ++ [.row 1 (M.map enc) false], H.length, ?_, .ro H.length M hH hM (by simp), by simp, List.getElem?_append_left (by omega), by simp [movedH]⟩
    simp only [step, hv, hb, elems, if_true, freezeVs_enc, hem, hc, Bool.false_eq_true, Bool.true_eq_false, if_false, List.length_map]
    rw [if_pos h2]
  | ro l ps h1 hne hl =>
    have hlt : l < H.length := PE.lt (v := .emp) hl
    have h2 : (L.length + M.length) * (24 + 1) ≤ 2 ^ 40 := by omega
    refine ⟨.sref l 1 0 (L.length + M.length) (L.length + M.length), H.set l (.row 1 (L.map enc ++ M.map enc) false), min H.length l, ?_, ?_, by simp, List.getElem?_set_ne (by omega), by simp [movedH]; omega⟩
    · simp only [step, hv, hb, elems, if_true, freezeVs_enc, hem, hc, Bool.false_eq_true, Bool.true_eq_false, if_false, hl, List.length_map, true_and]
      rw [if_pos h2]
    · have := PE.ro (H := H.set l (.row 1 (L.map enc ++ M.map enc) false)) l (L ++ M) h1 (by simp [hne]) (by rw [List.getElem?_set_self hlt]; simp)
      rw [List.length_append] at this
      exact this
end Go.Abs.T12
/- ConstraintHolds: the last region of a round, run step by step. -/
namespace Go.Abs.T12
open Go Go.Abs Go.Abs.Cyc
set_option linter.unusedSimpArgs false

/-- A list of operations that was run: its states, its end, what it changed. -/
inductive Ran (call : CallT) : List AOper → St → List Bool → List St → St → Prop
  | nil {st : St} : Ran call [] st [] [st] st
  | cons {o : AOper} {r : List AOper} {st st' fin : St} {wr : List Bool} {tr : List St} {v : V} {H' : Heap} {low' : Nat} {m : Bool} (hg : o.guard = none) (hs : stepC call (Opd.ev st.tE st.vE) st.H st.H.length o.op = some (v, H', low'))
      (hm : movedH st.H H' low' = m) (hst : ({ st with H := H', low := min st.low low' } : St).put o.dst v = st') (h : Ran call r st' wr tr fin) : Ran call (o :: r) st (m :: wr) (st :: tr) fin

theorem Ran.exec {call : CallT} {ops : List AOper} {st fin : St} {wr : List Bool} {tr : List St} (h : Ran call ops st wr tr fin) : ∀ w, execOps call ops st w = some (fin, w.reverse ++ wr) := by
  induction h with
  | nil => intro w; simp [execOps]
  | cons hg hs hm hst h ih =>
    intro w
    simp only [execOps, wantedA, hg, hs, hm, hst, ih]
    simp
theorem Ran.trace {call : CallT} {ops : List AOper} {st fin : St} {wr : List Bool} {tr : List St} (h : Ran call ops st wr tr fin) : traceOps call ops st = some tr := by
  induction h with
  | nil => rfl
  | cons hg hs hm hst h ih => simp only [traceOps, wantedA, hg, hs, hst, ih]; rfl

section
variable {call : CallT} {vE : Env} {H : Heap} {ro : Option Nat} {C : List V} {sv rv : V} {p : List Nat} {x n : Nat}

structure Fx (call : CallT) (vE : Env) (H : Heap) (C : List V) (sv rv : V) (p : List Nat) (x n : Nat) : Prop where
  e0 : H[0]? = some (.cells C)
  e1 : lookupE vE 1 = sv
  e2 : lookupE vE 2 = enc p
  e3 : lookupE vE 3 = .int .i64 (n : Int)
  e4 : lookupE vE 4 = .ptr 0 0
  e11 : lookupE vE 11 = .int .i64 (x : Int)
  s1 : ∀ (tE : Env) (H' : Heap), H'[0]? = some (.cells C) → stepC call (Opd.ev tE vE) H' H'.length (.load (some 6) (.var 4)) = some (.agg C, H', H'.length)
  s5 : ∀ (tE : Env), lookupE tE 56 = .emp → lookupE tE 57 = enc p → stepC call (Opd.ev tE vE) H H.length (.append 1 8 (.tmp 56) (.tmp 57)) = some (.sref H.length 1 0 p.length p.length, H ++ [AObj.row 1 (encL p) false], H.length)
  s7 : ∀ (tE : Env) (H' : Heap), lookupE tE 59 = .int .i64 (x : Int) → stepC call (Opd.ev tE vE) H' H'.length (.lit 1 [.int .i64 0] 1 [(0, (.tmp 59))] true) = some (enc [x], H', H'.length)
  s8 : ∀ (tE : Env), lookupE tE 58 = .sref H.length 1 0 p.length p.length → lookupE tE 60 = enc [x] → stepC call (Opd.ev tE vE) (H ++ [AObj.row 1 (encL p) false]) (H ++ [AObj.row 1 (encL p) false]).length (.append 1 8 (.tmp 58) (.tmp 60)) = some (.sref H.length 1 0 (p.length + 1) (p.length + 1), H ++ [AObj.row 1 (encL (p ++ [x])) false], H.length)

theorem ranA (F : Fx call vE H C sv rv p x n) (s10 : ∀ (tE : Env), lookupE tE 54 = .agg C → lookupE tE 55 = sv → lookupE tE 61 = .sref H.length 1 0 (p.length + 1) (p.length + 1) → lookupE tE 62 = .int .i64 (n : Int) → stepC call (Opd.ev tE vE) (H ++ [AObj.row 1 (encL (p ++ [x])) false]) (H ++ [AObj.row 1 (encL (p ++ [x])) false]).length (.call false (.func 27) [(.tmp 54), (.tmp 55), (.tmp 61), (.tmp 62)]) = some (rv, H ++ [AObj.row 1 (encL (p ++ [x])) false], (H ++ [AObj.row 1 (encL (p ++ [x])) false]).length))
    (s11 : ∀ (tE : Env), lookupE tE 53 = lookupE vE 10 → lookupE tE 63 = rv → stepC call (Opd.ev tE vE) (H ++ [AObj.row 1 (encL (p ++ [x])) false]) (H ++ [AObj.row 1 (encL (p ++ [x])) false]).length (.append 1 24 (.tmp 53) (.tmp 63)) = some (lookupE vE 10, H ++ [AObj.row 1 (encL (p ++ [x])) false], (H ++ [AObj.row 1 (encL (p ++ [x])) false]).length)) :
    Ran call OPS27 ⟨[], vE, H, 0, ro⟩ [false, false, false, false, false, true, false, false, true, false, false, false, false] [⟨[], vE, H, 0, ro⟩, ⟨[(53, lookupE vE 10)], vE, H, 0, ro⟩, ⟨[(54, .agg C), (53, lookupE vE 10)], vE, H, 0, ro⟩, ⟨[(55, sv), (54, .agg C), (53, lookupE vE 10)], vE, H, 0, ro⟩, ⟨[(56, .emp), (55, sv), (54, .agg C), (53, lookupE vE 10)], vE, H, 0, ro⟩, ⟨[(57, enc p), (56, .emp), (55, sv), (54, .agg C), (53, lookupE vE 10)], vE, H, 0, ro⟩, ⟨[(58, .sref H.length 1 0 p.length p.length), (57, enc p), (56, .emp), (55, sv), (54, .agg C), (53, lookupE vE 10)], vE, H ++ [AObj.row 1 (encL p) false], 0, ro⟩, ⟨[(59, .int .i64 (x : Int)), (58, .sref H.length 1 0 p.length p.length), (57, enc p), (56, .emp), (55, sv), (54, .agg C), (53, lookupE vE 10)], vE, H ++ [AObj.row 1 (encL p) false], 0, ro⟩, ⟨[(60, enc [x]), (59, .int .i64 (x : Int)), (58, .sref H.length 1 0 p.length p.length), (57, enc p), (56, .emp), (55, sv), (54, .agg C), (53, lookupE vE 10)], vE, H ++ [AObj.row 1 (encL p) false], 0, ro⟩, ⟨[(61, .sref H.length 1 0 (p.length + 1) (p.length + 1)), (60, enc [x]), (59, .int .i64 (x : Int)), (58, .sref H.length 1 0 p.length p.length), (57, enc p), (56, .emp), (55, sv), (54, .agg C), (53, lookupE vE 10)], vE, H ++ [AObj.row 1 (encL (p ++ [x])) false], 0, ro⟩, ⟨[(62, .int .i64 (n : Int)), (61, .sref H.length 1 0 (p.length + 1) (p.length + 1)), (60, enc [x]), (59, .int .i64 (x : Int)), (58, .sref H.length 1 0 p.length p.length), (57, enc p), (56, .emp), (55, sv), (54, .agg C), (53, lookupE vE 10)], vE, H ++ [AObj.row 1 (encL (p ++ [x])) false], 0, ro⟩, ⟨[(63, rv), (62, .int .i64 (n : Int)), (61, .sref H.length 1 0 (p.length + 1) (p.length + 1)), (60, enc [x]), (59, .int .i64 (x : Int)), (58, .sref H.length 1 0 p.length p.length), (57, enc p), (56, .emp), (55, sv), (54, .agg C), (53, lookupE vE 10)], vE, H ++ [AObj.row 1 (encL (p ++ [x])) false], 0, ro⟩, ⟨[(64, lookupE vE 10), (63, rv), (62, .int .i64 (n : Int)), (61, .sref H.length 1 0 (p.length + 1) (p.length + 1)), (60, enc [x]), (59, .int .i64 (x : Int)), (58, .sref H.length 1 0 p.length p.length), (57, enc p), (56, .emp), (55, sv), (54, .agg C), (53, lookupE vE 10)], vE, H ++ [AObj.row 1 (encL (p ++ [x])) false], 0, ro⟩, ⟨[(64, lookupE vE 10), (63, rv), (62, .int .i64 (n : Int)), (61, .sref H.length 1 0 (p.length + 1) (p.length + 1)), (60, enc [x]), (59, .int .i64 (x : Int)), (58, .sref H.length 1 0 p.length p.length), (57, enc p), (56, .emp), (55, sv), (54, .agg C), (53, lookupE vE 10)], setE vE 10 (lookupE vE 10), H ++ [AObj.row 1 (encL (p ++ [x])) false], 0, ro⟩] ⟨[(64, lookupE vE 10), (63, rv), (62, .int .i64 (n : Int)), (61, .sref H.length 1 0 (p.length + 1) (p.length + 1)), (60, enc [x]), (59, .int .i64 (x : Int)), (58, .sref H.length 1 0 p.length p.length), (57, enc p), (56, .emp), (55, sv), (54, .agg C), (53, lookupE vE 10)], setE vE 10 (lookupE vE 10), H ++ [AObj.row 1 (encL (p ++ [x])) false], 0, ro⟩ := by
  obtain ⟨e0, e1, e2, e3, e4, e11, s1, s5, s7, s8⟩ := F
  exact (.cons rfl (S_mv _) (by simp [movedH]) (by simp [St.put, Opd.ev, lookupE, e1, e2, e3, e11]) (.cons rfl (s1 _ _ e0) (by simp [movedH]) (by simp [St.put]) (.cons rfl (S_mv _) (by simp [movedH]) (by simp [St.put, Opd.ev, lookupE, e1, e2, e3, e11]) (.cons rfl (rfl) (by simp [movedH]) (by simp [St.put]) (.cons rfl (S_mv _) (by simp [movedH]) (by simp [St.put, Opd.ev, lookupE, e1, e2, e3, e11]) (.cons rfl (s5 _ rfl rfl) (by simp [movedH]) (by simp [St.put]) (.cons rfl (S_mv _) (by simp [movedH]) (by simp [St.put, Opd.ev, lookupE, e1, e2, e3, e11]) (.cons rfl (s7 _ _ rfl) (by simp [movedH]) (by simp [St.put]) (.cons rfl (s8 _ rfl rfl) (by simp [movedH]) (by simp [St.put]) (.cons rfl (S_mv _) (by simp [movedH]) (by simp [St.put, Opd.ev, lookupE, e1, e2, e3, e11]) (.cons rfl (s10 _ rfl rfl rfl rfl) (by simp [movedH]) (by simp [St.put]) (.cons rfl (s11 _ rfl rfl) (by simp [movedH]) (by simp [St.put]) (.cons rfl (S_mv _) (by simp [movedH]) (by simp [St.put, Opd.ev, lookupE, e1, e2, e3, e11]) .nil)))))))))))))

theorem ranB {v' : V} {H' : Heap} {low' : Nat} (F : Fx call vE H C sv rv p x n) (s10 : ∀ (tE : Env), lookupE tE 54 = .agg C → lookupE tE 55 = sv → lookupE tE 61 = .sref H.length 1 0 (p.length + 1) (p.length + 1) → lookupE tE 62 = .int .i64 (n : Int) → stepC call (Opd.ev tE vE) (H ++ [AObj.row 1 (encL (p ++ [x])) false]) (H ++ [AObj.row 1 (encL (p ++ [x])) false]).length (.call false (.func 27) [(.tmp 54), (.tmp 55), (.tmp 61), (.tmp 62)]) = some (rv, H ++ [AObj.row 1 (encL (p ++ [x])) true], H.length))
    (s11 : ∀ (tE : Env), lookupE tE 53 = lookupE vE 10 → lookupE tE 63 = rv → stepC call (Opd.ev tE vE) (H ++ [AObj.row 1 (encL (p ++ [x])) true]) (H ++ [AObj.row 1 (encL (p ++ [x])) true]).length (.append 1 24 (.tmp 53) (.tmp 63)) = some (v', H', low')) (hmv : movedH (H ++ [AObj.row 1 (encL (p ++ [x])) true]) H' low' = true) :
    Ran call OPS27 ⟨[], vE, H, 0, ro⟩ [false, false, false, false, false, true, false, false, true, false, true, true, false] [⟨[], vE, H, 0, ro⟩, ⟨[(53, lookupE vE 10)], vE, H, 0, ro⟩, ⟨[(54, .agg C), (53, lookupE vE 10)], vE, H, 0, ro⟩, ⟨[(55, sv), (54, .agg C), (53, lookupE vE 10)], vE, H, 0, ro⟩, ⟨[(56, .emp), (55, sv), (54, .agg C), (53, lookupE vE 10)], vE, H, 0, ro⟩, ⟨[(57, enc p), (56, .emp), (55, sv), (54, .agg C), (53, lookupE vE 10)], vE, H, 0, ro⟩, ⟨[(58, .sref H.length 1 0 p.length p.length), (57, enc p), (56, .emp), (55, sv), (54, .agg C), (53, lookupE vE 10)], vE, H ++ [AObj.row 1 (encL p) false], 0, ro⟩, ⟨[(59, .int .i64 (x : Int)), (58, .sref H.length 1 0 p.length p.length), (57, enc p), (56, .emp), (55, sv), (54, .agg C), (53, lookupE vE 10)], vE, H ++ [AObj.row 1 (encL p) false], 0, ro⟩, ⟨[(60, enc [x]), (59, .int .i64 (x : Int)), (58, .sref H.length 1 0 p.length p.length), (57, enc p), (56, .emp), (55, sv), (54, .agg C), (53, lookupE vE 10)], vE, H ++ [AObj.row 1 (encL p) false], 0, ro⟩, ⟨[(61, .sref H.length 1 0 (p.length + 1) (p.length + 1)), (60, enc [x]), (59, .int .i64 (x : Int)), (58, .sref H.length 1 0 p.length p.length), (57, enc p), (56, .emp), (55, sv), (54, .agg C), (53, lookupE vE 10)], vE, H ++ [AObj.row 1 (encL (p ++ [x])) false], 0, ro⟩, ⟨[(62, .int .i64 (n : Int)), (61, .sref H.length 1 0 (p.length + 1) (p.length + 1)), (60, enc [x]), (59, .int .i64 (x : Int)), (58, .sref H.length 1 0 p.length p.length), (57, enc p), (56, .emp), (55, sv), (54, .agg C), (53, lookupE vE 10)], vE, H ++ [AObj.row 1 (encL (p ++ [x])) false], 0, ro⟩, ⟨[(63, rv), (62, .int .i64 (n : Int)), (61, .sref H.length 1 0 (p.length + 1) (p.length + 1)), (60, enc [x]), (59, .int .i64 (x : Int)), (58, .sref H.length 1 0 p.length p.length), (57, enc p), (56, .emp), (55, sv), (54, .agg C), (53, lookupE vE 10)], vE, H ++ [AObj.row 1 (encL (p ++ [x])) true], 0, ro⟩, ⟨[(64, v'), (63, rv), (62, .int .i64 (n : Int)), (61, .sref H.length 1 0 (p.length + 1) (p.length + 1)), (60, enc [x]), (59, .int .i64 (x : Int)), (58, .sref H.length 1 0 p.length p.length), (57, enc p), (56, .emp), (55, sv), (54, .agg C), (53, lookupE vE 10)], vE, H', 0, ro⟩, ⟨[(64, v'), (63, rv), (62, .int .i64 (n : Int)), (61, .sref H.length 1 0 (p.length + 1) (p.length + 1)), (60, enc [x]), (59, .int .i64 (x : Int)), (58, .sref H.length 1 0 p.length p.length), (57, enc p), (56, .emp), (55, sv), (54, .agg C), (53, lookupE vE 10)], setE vE 10 v', H', 0, ro⟩] ⟨[(64, v'), (63, rv), (62, .int .i64 (n : Int)), (61, .sref H.length 1 0 (p.length + 1) (p.length + 1)), (60, enc [x]), (59, .int .i64 (x : Int)), (58, .sref H.length 1 0 p.length p.length), (57, enc p), (56, .emp), (55, sv), (54, .agg C), (53, lookupE vE 10)], setE vE 10 v', H', 0, ro⟩ := by
  obtain ⟨e0, e1, e2, e3, e4, e11, s1, s5, s7, s8⟩ := F
  exact (.cons rfl (S_mv _) (by simp [movedH]) (by simp [St.put, Opd.ev, lookupE, e1, e2, e3, e11]) (.cons rfl (s1 _ _ e0) (by simp [movedH]) (by simp [St.put]) (.cons rfl (S_mv _) (by simp [movedH]) (by simp [St.put, Opd.ev, lookupE, e1, e2, e3, e11]) (.cons rfl (rfl) (by simp [movedH]) (by simp [St.put]) (.cons rfl (S_mv _) (by simp [movedH]) (by simp [St.put, Opd.ev, lookupE, e1, e2, e3, e11]) (.cons rfl (s5 _ rfl rfl) (by simp [movedH]) (by simp [St.put]) (.cons rfl (S_mv _) (by simp [movedH]) (by simp [St.put, Opd.ev, lookupE, e1, e2, e3, e11]) (.cons rfl (s7 _ _ rfl) (by simp [movedH]) (by simp [St.put]) (.cons rfl (s8 _ rfl rfl) (by simp [movedH]) (by simp [St.put]) (.cons rfl (S_mv _) (by simp [movedH]) (by simp [St.put, Opd.ev, lookupE, e1, e2, e3, e11]) (.cons rfl (s10 _ rfl rfl rfl rfl) (by simp [movedH]) (by simp [St.put]) (.cons rfl (s11 _ rfl rfl) hmv (by simp [St.put]) (.cons rfl (S_mv _) (by simp [movedH]) (by simp [St.put, Opd.ev, lookupE, e1, e2, e3, e11]) .nil)))))))))))))
end
end Go.Abs.T12
/- ConstraintHolds: a round of the reference's paths lays the paths that came back behind the others. -/
namespace Go.Abs.T12
open Go Go.Abs Go.Abs.Cyc
set_option linter.unusedSimpArgs false

section
variable {call : CallT} {vE : Env} {H : Heap} {ro : Option Nat} {C : List V} {sv rv : V} {p : List Nat} {x n : Nat}

theorem fx (hC : C.length = 6) (hp : p ≠ []) (hpl : p.length ≤ 1000) (e0 : H[0]? = some (.cells C)) (e1 : lookupE vE 1 = sv) (e2 : lookupE vE 2 = enc p) (e3 : lookupE vE 3 = .int .i64 (n : Int)) (e4 : lookupE vE 4 = .ptr 0 0) (e11 : lookupE vE 11 = .int .i64 (x : Int)) :
    Fx call vE H C sv rv p x n where
  e0 := e0
  e1 := e1
  e2 := e2
  e3 := e3
  e4 := e4
  e11 := e11
  s1 tE H' h0 := by
    have htk : List.take 6 C = C := List.take_of_length_le (by omega)
    rw [S_load]
    simp [Opd.ev, e4, loadA, h0, readCells, hC, htk]
  s5 tE q5 q6 := by
    have h1 : (encL p).isEmpty = false := by
      cases p with
      | nil => exact absurd rfl hp
      | cons => rfl
    have h2 : p.length * (8 + 1) ≤ 2 ^ 40 := by omega
    have h3 := encL_cellsOk p
    rw [S_append]
    simp only [step, Opd.ev, q5, q6, enc, elems, if_true, freezeVs_encL, h1, h3, Bool.false_eq_true, Bool.true_eq_false, if_false, encL_len]
    rw [if_pos h2]
  s7 tE H' q := by
    show step (Opd.ev tE vE) H' H'.length (.lit 1 [.int .i64 0] 1 [(0, (.tmp 59))] true) = _
    simp only [step, List.map, Opd.ev, q]
    rfl
  s8 tE q5 q6 := by
    have h2 : (p.length + 1) * (8 + 1) ≤ 2 ^ 40 := by omega
    have hc : cellsOk ((encL [x]).flatMap cellsV) = true := encL_cellsOk [x]
    have hz : ∀ H' low, freezeVs H' low (encL [x]) = some (encL [x], H', low) := fun H' low => freezeVs_encL H' low [x]
    have he : (encL [x]).isEmpty = false := rfl
    have hl1 : (encL [x]).length = 1 := rfl
    have happ : encL p ++ encL [x] = encL (p ++ [x]) := by simp [encL]
    have hlen : min (H ++ [AObj.row 1 (encL p) false]).length H.length = H.length := by simp
    rw [S_append]
    simp only [step, Opd.ev, q5, q6, enc, elems, if_true, hz, he, hc, Bool.false_eq_true, Bool.true_eq_false, if_false, get_last, encL_len, hl1, true_and]
    rw [if_pos h2, set_last, happ, hlen]

theorem frz_path {l : Nat} {q : List Nat} {H3 : Heap} {low : Nat} (h : H3[l]? = some (.row 1 (encL q) false)) : freezeV H3 low (.sref l 1 0 q.length q.length) = some (enc q, H3.set l (.row 1 (encL q) true), min low l) := by
  have h1 := encL_isPs q
  have h2 := encL_len q
  have h3 : ((encL q).drop 0).take q.length = encL q := by rw [List.drop_zero, List.take_of_length_le (by omega)]
  unfold freezeV
  simp only [freezeD, isP, h, h1, h2, Bool.false_eq_true, if_false, if_true, Nat.zero_add, Nat.le_refl, and_self, h3]
  rfl

theorem args_frz (hcp : isPs C = true) (hsp : isP sv = true) {q : List Nat} : freezeVs (H ++ [AObj.row 1 (encL q) false]) (H ++ [AObj.row 1 (encL q) false]).length [.agg C, sv, .sref H.length 1 0 q.length q.length, .int .i64 (n : Int)] = some ([.agg C, sv, enc q, .int .i64 (n : Int)], H ++ [AObj.row 1 (encL q) true], H.length) := by
  have a1 : ∀ H' low, freezeV H' low (.agg C) = some (.agg C, H', low) := fun H' low => by simp [freezeV, freezeD, isP, hcp]
  have a2 : ∀ H' low, freezeV H' low sv = some (sv, H', low) := fun H' low => by simp [freezeV, freezeD, hsp]
  have a3 : ∀ H' low, freezeV H' low (.int .i64 (n : Int)) = some (.int .i64 (n : Int), H', low) := fun H' low => rfl
  have a4 := frz_path (l := H.length) (q := q) (H3 := H ++ [AObj.row 1 (encL q) false]) (low := (H ++ [AObj.row 1 (encL q) false]).length) (get_last _ _)
  have hlen : min (H ++ [AObj.row 1 (encL q) false]).length H.length = H.length := by simp
  rw [set_last, hlen] at a4
  simp only [freezeVs, a1, a2, a3, a4]

end

theorem flat_RV {v : V} {L : List (List Nat)} (h : RV v L) : (L = [] ∧ flat v = true ∧ (v = .nil0 ∨ v = .emp)) ∨ (L ≠ [] ∧ flat v = false ∧ v = .list 1 (L.map enc)) := by
  rcases h with ⟨rfl, h | h⟩ | ⟨h1, h2⟩
  · exact .inl ⟨rfl, by rw [h]; rfl, .inl h⟩
  · exact .inl ⟨rfl, by rw [h]; rfl, .inr h⟩
  · exact .inr ⟨h1, by rw [h2]; rfl, h2⟩

theorem stable_of {call : CallT} {o : AOper} {s : St} {Hk : Heap} {v : V} {Ha : Heap} {la : Nat} (hg : o.guard = none) (h1 : stepC call (Opd.ev s.tE s.vE) s.H s.H.length o.op = some (v, Ha, la)) {Hb : Heap} {lb : Nat} (h2 : stepC call (Opd.ev s.tE s.vE) Hk Hk.length o.op = some (v, Hb, lb)) (hm : movedH Hk Hb lb = false) :
    stable call (o, s, Hk) = true := by
  simp only [stable, wantedA, hg, h1, h2, eqV_refl, hm, Bool.not_false, Bool.and_self]

set_option maxHeartbeats 4000000 in
theorem lay27 {tab : Nat → Option Fun} {vE : Env} {H : Heap} {ro : Option Nat} {C : List V} {sv rv : V} {p : List Nat} {x n : Nat} {L M : List (List Nat)} (hC : C.length = 6) (hcp : isPs C = true) (hsp : isP sv = true) (hp : p ≠ []) (hpl : p.length ≤ 1000) (e0 : H[0]? = some (.cells C)) (e1 : lookupE vE 1 = sv) (e2 : lookupE vE 2 = enc p) (e3 : lookupE vE 3 = .int .i64 (n : Int)) (e4 : lookupE vE 4 = .ptr 0 0) (e11 : lookupE vE 11 = .int .i64 (x : Int))
    (e10 : PE H (lookupE vE 10) L) (hw : ∀ H, callL tab (.fn 27 [] []) [.agg C, sv, enc (p ++ [x]), .int .i64 (n : Int)] H = some (rv, H, H.length)) (hrv : RV rv M) (hn : L.length + M.length ≤ 1000000) :
    ∃ v' H', execL tab F27BQ1 ⟨[], vE, H, 0, ro⟩ = some (.normal, ⟨[], setE vE 10 v', H', 0, ro⟩) ∧ PE H' v' (L ++ M) ∧ H'[0]? = H[0]? := by
  have F : Fx (callL tab) vE H C sv rv p x n := fx hC hp hpl e0 e1 e2 e3 e4 e11
  have hpl1 : p.length + 1 = (p ++ [x]).length := by simp
  have hH : 0 < H.length := by
    rcases Nat.eq_zero_or_pos H.length with e | e
    · rw [List.length_eq_zero_iff.1 e] at e0; cases e0
    · exact e
  have h2 : ∀ o : AObj, (H ++ [o])[0]? = some (.cells C) := fun o => by rw [List.getElem?_append_left hH]; exact e0
  have hcall : ∀ (tE : Env), lookupE tE 54 = .agg C → lookupE tE 55 = sv → lookupE tE 61 = .sref H.length 1 0 (p.length + 1) (p.length + 1) → lookupE tE 62 = .int .i64 (n : Int) →
      stepC (callL tab) (Opd.ev tE vE) (H ++ [AObj.row 1 (encL (p ++ [x])) false]) (H ++ [AObj.row 1 (encL (p ++ [x])) false]).length (.call false (.func 27) [(.tmp 54), (.tmp 55), (.tmp 61), (.tmp 62)]) =
        if flat rv = true then some (rv, H ++ [AObj.row 1 (encL (p ++ [x])) false], (H ++ [AObj.row 1 (encL (p ++ [x])) false]).length) else some (rv, H ++ [AObj.row 1 (encL (p ++ [x])) true], H.length) := fun tE q1 q2 q3 q4 => by
    rw [S_call0]
    rw [hpl1] at q3
    have hf : Opd.ev tE vE (.func 27) = .fn 27 [] [] := rfl
    simp only [List.map_cons, List.map_nil, hf]
    simp only [Opd.ev, q1, q2, q3, q4, args_frz (n := n) hcp hsp, hw, Nat.le_refl, and_true]
    have : min H.length (H ++ [AObj.row 1 (encL (p ++ [x])) true]).length = H.length := by simp
    rw [this]
  have w1 : writersOk BEF27 [false, false, false, false, false, true, false, false, true, false, false, false, false] = true := by decide
  have w2 : writersOk BEF27 [false, false, false, false, false, true, false, false, true, false, true, true, false] = true := by decide
  rcases flat_RV hrv with ⟨rfl, hfl, hv⟩ | ⟨hM, hfl, hv⟩
  · have s10 := fun tE q1 q2 q3 q4 => (hcall tE q1 q2 q3 q4).trans (if_pos hfl)
    have hpe : PE (H ++ [AObj.row 1 (encL (p ++ [x])) false]) (lookupE vE 10) L := e10.push _
    have s11 : ∀ (tE : Env), lookupE tE 53 = lookupE vE 10 → lookupE tE 63 = rv → stepC (callL tab) (Opd.ev tE vE) (H ++ [.row 1 (encL (p ++ [x])) false]) (H ++ [AObj.row 1 (encL (p ++ [x])) false]).length (.append 1 24 (.tmp 53) (.tmp 63)) = some (lookupE vE 10, H ++ [.row 1 (encL (p ++ [x])) false], (H ++ [AObj.row 1 (encL (p ++ [x])) false]).length) := fun tE q1 q2 => by
      have a : Opd.ev tE vE (.tmp 53) = lookupE vE 10 := q1
      have b : Opd.ev tE vE (.tmp 63) = rv := q2
      have := lay_none (call := callL tab) (ev := Opd.ev tE vE) (H := H ++ [AObj.row 1 (encL (p ++ [x])) false]) (low := (H ++ [AObj.row 1 (encL (p ++ [x])) false]).length) (a := .tmp 53) (b := .tmp 63) (L := L) (by rw [a]; exact hpe) (by rw [b]; exact hv)
      rw [this, a]
    have R := ranA (ro := ro) F s10 s11
    refine ⟨lookupE vE 10, H ++ [AObj.row 1 (encL (p ++ [x])) false], ?_, by rw [List.append_nil]; exact hpe, by rw [h2, e0]⟩
    rw [F27BQ1_ops, execL_region]
    simp only [R.exec, List.reverse_nil, List.nil_append]
    have hmv : movesOk (callL tab) BEF27 OPS27 [false, false, false, false, false, true, false, false, true, false, false, false, false] ⟨[], vE, H, 0, ro⟩ = true := by
      unfold movesOk
      rw [R.trace]
      simp only [w1, Bool.true_and, demA, List.all_cons, List.all_nil, Bool.and_true, Bool.and_eq_true]
      refine ⟨stable_of rfl (F.s1 _ _ e0) (F.s1 _ _ e0) (by simp [movedH]), stable_of rfl (F.s1 _ _ e0) (F.s1 _ _ (h2 _)) (by simp [movedH]), stable_of rfl (F.s1 _ _ e0) (F.s1 _ _ (h2 _)) (by simp [movedH]), stable_of rfl rfl rfl (by simp [movedH]), stable_of rfl (F.s7 _ _ rfl) (F.s7 _ _ rfl) (by simp [movedH]), stable_of rfl (F.s7 _ _ rfl) (F.s7 _ _ rfl) (by simp [movedH]),
        stable_of rfl (s10 _ rfl rfl rfl rfl) (s10 _ rfl rfl rfl rfl) (by simp [movedH]), stable_of rfl (s11 _ rfl rfl) (s11 _ rfl rfl) (by simp [movedH])⟩
    rw [hmv, Bool.or_true, if_pos rfl]
  · have s10 := fun tE q1 q2 q3 q4 => (hcall tE q1 q2 q3 q4).trans (if_neg (by rw [hfl]; simp))
    have hpe : PE (H ++ [AObj.row 1 (encL (p ++ [x])) true]) (lookupE vE 10) L := e10.push _
    obtain ⟨v', H', low', r1, r2, r3, r4, r5⟩ := lay_some (call := callL tab) (ev := Opd.ev [(53, lookupE vE 10), (63, rv)] vE) (H := H ++ [AObj.row 1 (encL (p ++ [x])) true]) (a := .tmp 53) (b := .tmp 63) (L := L) (M := M) (by simpa [Opd.ev, lookupE] using hpe) (by simpa [Opd.ev, lookupE] using hv) hM (by simp) hn
    have s11 : ∀ (tE : Env), lookupE tE 53 = lookupE vE 10 → lookupE tE 63 = rv → stepC (callL tab) (Opd.ev tE vE) (H ++ [.row 1 (encL (p ++ [x])) true]) (H ++ [AObj.row 1 (encL (p ++ [x])) true]).length (.append 1 24 (.tmp 53) (.tmp 63)) = some (v', H', low') := fun tE q1 q2 => by
      rw [← r1, S_append, S_append]
      simp only [step, Opd.ev, q1, q2, lookupE, if_true]
      rfl
    have R := ranB (ro := ro) F s10 s11 r5
    refine ⟨v', H', ?_, r2, by rw [r4, h2, e0]⟩
    rw [F27BQ1_ops, execL_region]
    simp only [R.exec, List.reverse_nil, List.nil_append]
    have hmv : movesOk (callL tab) BEF27 OPS27 [false, false, false, false, false, true, false, false, true, false, true, true, false] ⟨[], vE, H, 0, ro⟩ = true := by
      unfold movesOk
      rw [R.trace]
      simp only [w2, Bool.true_and, demB, List.all_cons, List.all_nil, Bool.and_true, Bool.and_eq_true]
      exact ⟨stable_of rfl (F.s1 _ _ e0) (F.s1 _ _ e0) (by simp [movedH]), stable_of rfl (F.s1 _ _ e0) (F.s1 _ _ (h2 _)) (by simp [movedH]), stable_of rfl (F.s1 _ _ e0) (F.s1 _ _ (h2 _)) (by simp [movedH]), stable_of rfl rfl rfl (by simp [movedH]), stable_of rfl (F.s7 _ _ rfl) (F.s7 _ _ rfl) (by simp [movedH]), stable_of rfl (F.s7 _ _ rfl) (F.s7 _ _ rfl) (by simp [movedH])⟩
    rw [hmv, Bool.or_true, if_pos rfl]
end Go.Abs.T12
/- ConstraintHolds: the reference's paths, by recursion. -/
namespace Go.Abs.T12
open Go Go.Abs Go.Abs.Cyc
set_option linter.unusedSimpArgs false

theorem flat_le {α β : Type} {f : α → List β} {B : Nat} : ∀ (l : List α), (∀ a ∈ l, (f a).length ≤ B) → (l.flatMap f).length ≤ l.length * B
  | [], _ => by simp
  | a :: r, h => by
    have h1 := h a (by simp)
    have h2 := flat_le r fun b hb => h b (by simp [hb])
    rw [List.flatMap_cons, List.length_append, List.length_cons, Nat.succ_mul]
    omega

theorem dfs_len {edge : Nat → Nat → Bool} {s : Nat} : ∀ (k : Nat) (l : List Nat), (dfs edge s k l).length ≤ s ^ k
  | 0, l => by simp only [dfs, Nat.pow_zero]; split <;> simp
  | k + 1, l => by
    have h1 := flat_le (f := dfs edge s k) (B := s ^ k) (nextP edge s l) fun a _ => dfs_len k a
    have h2 : (nextP edge s l).length * s ^ k ≤ s * s ^ k := Nat.mul_le_mul_right _ nextP_len
    simp only [dfs]
    rw [Nat.pow_succ, Nat.mul_comm]
    omega

/-- The words that the reference's paths need. -/
structure Tr (tab : Nat → Option Fun) : Prop where
  h41 : ∃ spec, tab 41 = some (.ext spec) ∧ ∀ (k fam bd : Int) (t sv : V) (f s : Nat) (vals : List Int), Gr k fam t bd f s sv vals → ∀ a b : Nat, a < s → b < s → spec [.agg (con k fam t bd f s), sv, .int .i64 a, .int .i64 b] = some (.bool (edgeB vals f s a b))
  h42 : ∃ spec, tab 42 = some (.ext spec) ∧ ∀ (sv : V) (l : List Int) (v : Int), VL sv l → spec [sv, .int .i64 v] = some (.bool (decide (v ∈ l)))

section
variable {tab : Nat → Option Fun} {k fam bd : Int} {t sv : V} {f s : Nat} {vals : List Int}

theorem Tr.edge (T : Tr tab) (g : Gr k fam t bd f s sv vals) (htp : isP t = true) {a b : Nat} (ha : a < s) (hb : b < s) (H : Heap) : callL tab (.fn 41 [] []) [.agg (con k fam t bd f s), sv, .int .i64 a, .int .i64 b] H = some (.bool (edgeB vals f s a b), H, H.length) := by
  obtain ⟨spec, h1, h2⟩ := T.h41
  exact callL_word h1 (by simp [isPs, isP, con, htp, slE_isP g.sv.sl]) (h2 _ _ _ _ _ _ _ _ g a b ha hb) H
theorem Tr.has (T : Tr tab) {p : List Nat} (hp : p.length ≤ 1000) {v : Nat} (H : Heap) : callL tab (.fn 42 [] []) [enc p, .int .i64 (v : Int)] H = some (.bool (p.contains v), H, H.length) := by
  obtain ⟨spec, h1, h2⟩ := T.h42
  refine callL_word h1 (by simp [isPs, isP, enc]) ?_ H
  rw [h2 _ _ _ (enc_VL (l := p) (by omega))]
  congr 2
  rw [Bool.eq_iff_iff]
  simp [mem_cast]

def okV (edge : Nat → Nat → Bool) (p : List Nat) (last : Nat) (v : Nat) : Bool := edge last v && !p.contains v

set_option maxHeartbeats 4000000 in
theorem q0_s (T : Tr tab) (g : Gr k fam t bd f s sv vals) (htp : isP t = true) {p : List Nat} (hpl : p.length ≤ 6) {last x : Nat} (hl : last < s) (hx : x < s) {vE : Env} {H : Heap} {ro : Option Nat} (e0 : H[0]? = some (.cells (con k fam t bd f s)))
    (e1 : lookupE vE 1 = sv) (e2 : lookupE vE 2 = enc p) (e4 : lookupE vE 4 = .ptr 0 0) (e9 : lookupE vE 9 = .int .i64 (last : Int)) (e11 : lookupE vE 11 = .int .i64 (x : Int)) :
    execL tab F27BQ0 ⟨[], vE, H, 0, ro⟩ = some (if okV (edgeB vals f s) p last x then .normal else .exit 1, ⟨[], setE vE 52 (.bool (!okV (edgeB vals f s) p last x)), H, 0, ro⟩) := by
  have hh := fun H => T.has (p := p) (by omega) (v := x) H
  have he := fun H => T.edge g htp hl hx H
  have hpc : isPs (con k fam t bd f s) = true := con_isPs htp
  have htk : List.take 6 (con k fam t bd f s) = con k fam t bd f s := rfl
  have hsp := slE_isP g.sv.sl
  unfold okV
  cases hc : p.contains x with
  | true =>
    rw [hc] at hh
    simp [F27BQ0, callBody, zipE, execL_seq, execL_region, execL_cond, execL_skip, execL_ret, execL_exit, execL_block, execOps, wantedA, S_mv, S_pick, S_bin, S_un, S_call0, S_call1, S_extract, S_nilEq, S_load, S_alloc, S_box, S_fieldAddr, S_field, Opd.ev, lookupE, lookE_setE, St.put, binA, unA, boolOf, freezeVs, freezeV, freezeD, isP, isPs, resultsA, resultA, finish, old, olds, flat, movedH_same, Nat.min_self, loadA, readCells, cellsV_int, cO_int, cO_bool, cO_str, cO_list, cO_sref, cO_nil0, cO_emp, cellsOk, e2, e4, e9, e11, enc_isP, hh]
  | false =>
    rw [hc] at hh
    cases hd : edgeB vals f s last x with
    | true =>
      rw [hd] at he
      simp [F27BQ0, callBody, zipE, execL_seq, execL_region, execL_cond, execL_skip, execL_ret, execL_exit, execL_block, execOps, wantedA, S_mv, S_pick, S_bin, S_un, S_call0, S_call1, S_extract, S_nilEq, S_load, S_alloc, S_box, S_fieldAddr, S_field, Opd.ev, lookupE, lookE_setE, St.put, binA, unA, boolOf, freezeVs, freezeV, freezeD, isP, isPs, resultsA, resultA, finish, old, olds, flat, movedH_same, Nat.min_self, loadA, readCells, cellsV_int, cO_int, cO_bool, cO_str, cO_list, cO_sref, cO_nil0, cO_emp, cellsOk, e0, e1, e2, e4, e9, e11, enc_isP, hh, he, con_len, htk, hpc, hsp]
    | false =>
      rw [hd] at he
      simp [F27BQ0, callBody, zipE, execL_seq, execL_region, execL_cond, execL_skip, execL_ret, execL_exit, execL_block, execOps, wantedA, S_mv, S_pick, S_bin, S_un, S_call0, S_call1, S_extract, S_nilEq, S_load, S_alloc, S_box, S_fieldAddr, S_field, Opd.ev, lookupE, lookE_setE, St.put, binA, unA, boolOf, freezeVs, freezeV, freezeD, isP, isPs, resultsA, resultA, finish, old, olds, flat, movedH_same, Nat.min_self, loadA, readCells, cellsV_int, cO_int, cO_bool, cO_str, cO_list, cO_sref, cO_nil0, cO_emp, cellsOk, e0, e1, e2, e4, e9, e11, enc_isP, hh, he, con_len, htk, hpc, hsp]

/-- What has been laid after i elements. -/
def laidL (edge : Nat → Nat → Bool) (s d : Nat) (p : List Nat) (i : Nat) : List (List Nat) := (((List.range' (p.headD 0 + 1) i).filter (okV edge p (p.getLastD 0))).map fun v => p ++ [v]).flatMap (dfs edge s d)

theorem laidL_succ (edge : Nat → Nat → Bool) (s d : Nat) (p : List Nat) (i : Nat) : laidL edge s d p (i + 1) = laidL edge s d p i ++ (if okV edge p (p.getLastD 0) (p.headD 0 + 1 + i) then dfs edge s d (p ++ [p.headD 0 + 1 + i]) else []) := by
  unfold laidL
  rw [List.range'_concat, List.filter_append, List.map_append, List.flatMap_append]
  congr 1
  rw [Nat.one_mul]
  generalize p.headD 0 + 1 + i = y
  generalize hq : okV edge p (p.getLastD 0) y = q
  have e : List.filter (okV edge p (p.getLastD 0)) [y] = if q then [y] else [] := by rw [List.filter_cons, hq]; rfl
  rw [e]
  cases q <;> simp
theorem laidL_all (edge : Nat → Nat → Bool) (s d : Nat) (p : List Nat) : laidL edge s d p (s - (p.headD 0 + 1)) = dfs edge s (d + 1) p := rfl
theorem laidL_len {edge : Nat → Nat → Bool} {s d : Nat} (hs : s ≤ 6) (hd : d ≤ 5) {p : List Nat} {i : Nat} (hi : i ≤ 6) : (laidL edge s d p i).length ≤ 60000 := by
  have hB : ∀ l, (dfs edge s d l).length ≤ 7776 := fun l => by
    have h1 := dfs_len (edge := edge) (s := s) d l
    have h2 : s ^ d ≤ 6 ^ d := Nat.pow_le_pow_left hs d
    have h3 : 6 ^ d ≤ 6 ^ 5 := Nat.pow_le_pow_right (by decide) hd
    have h4 : (6 : Nat) ^ 5 = 7776 := by decide
    omega
  unfold laidL
  have h1 := flat_le (f := dfs edge s d) (B := 7776) ((((List.range' (p.headD 0 + 1) i).filter (okV edge p (p.getLastD 0))).map fun v => p ++ [v])) fun a _ => hB a
  have h2 : ((((List.range' (p.headD 0 + 1) i).filter (okV edge p (p.getLastD 0))).map fun v => p ++ [v])).length ≤ 6 := by
    rw [List.length_map]
    have := List.length_filter_le (okV edge p (p.getLastD 0)) (List.range' (p.headD 0 + 1) i)
    rw [List.length_range'] at this
    omega
  have h3 := Nat.mul_le_mul_right 7776 h2
  omega
end
end Go.Abs.T12
/- ConstraintHolds: the reference's paths, whole. -/
namespace Go.Abs.T12
open Go Go.Abs Go.Abs.Cyc
set_option linter.unusedSimpArgs false
section
variable {tab : Nat → Option Fun} {k fam bd : Int} {t sv : V} {f s : Nat} {vals : List Int}

/-- Where a search stands. -/
structure PJ (sv : V) (c : List V) (p : List Nat) (n last : Nat) (x : Nat) (L : List (List Nat)) (st : St) : Prop where
  tE : st.tE = []
  low : st.low = 0
  e0 : st.H[0]? = some (.cells c)
  e1 : lookupE st.vE 1 = sv
  e2 : lookupE st.vE 2 = enc p
  e3 : lookupE st.vE 3 = .int .i64 (n : Int)
  e4 : lookupE st.vE 4 = .ptr 0 0
  e9 : lookupE st.vE 9 = .int .i64 (last : Int)
  e10 : PE st.H (lookupE st.vE 10) L
  e11 : lookupE st.vE 11 = .int .i64 (x : Int)

set_option maxHeartbeats 4000000 in
theorem paths_round (T : Tr tab) (g : Gr k fam t bd f s sv vals) (htp : isP t = true) {p : List Nat} (hp : p ≠ []) (hpl : p.length ≤ 6) {n last x d : Nat} (hl : last < s) (hx : x < s) (hd : d ≤ 5) {L : List (List Nat)} (hL : L.length ≤ 60000)
    (hrec : okV (edgeB vals f s) p last x = true → ∃ rv, (∀ H, callL tab (.fn 27 [] []) [.agg (con k fam t bd f s), sv, enc (p ++ [x]), .int .i64 (n : Int)] H = some (rv, H, H.length)) ∧ RV rv (dfs (edgeB vals f s) s d (p ++ [x])))
    {st : St} (h : PJ sv (con k fam t bd f s) p n last x L st) :
    ∃ st', execL tab F27L0 st = some (.normal, st') ∧ PJ sv (con k fam t bd f s) p n last (x + 1) (L ++ if okV (edgeB vals f s) p last x then dfs (edgeB vals f s) s d (p ++ [x]) else []) st' := by
  obtain ⟨tE, vE, H, low, ro⟩ := st
  obtain ⟨c0, c1, e0, e1, e2, e3, e4, e9, e10, e11⟩ := h
  simp only at c0 c1 e0 e1 e2 e3 e4 e9 e10 e11
  subst c0; subst c1
  have hs6 := g.s6
  have hwi : IntKind.i64.wrap ((x : Int) + 1) = (x : Int) + 1 := by rw [wrap_small] <;> omega
  have hcast : ((x + 1 : Nat) : Int) = (x : Int) + 1 := by push_cast; rfl
  have hlt : (decide ((x : Int) < (s : Int))) = true := decide_eq_true (by omega)
  have q0 := q0_s T g htp hpl hl hx (vE := setE vE 39 (.bool true)) (H := H) (ro := ro) e0 (by simp [lookE_setE, e1]) (by simp [lookE_setE, e2]) (by simp [lookE_setE, e4]) (by simp [lookE_setE, e9]) (by simp [lookE_setE, e11])
  cases hok : okV (edgeB vals f s) p last x with
  | false =>
    rw [hok] at q0
    have hb : execL tab F27B ⟨[], setE vE 39 (.bool true), H, 0, ro⟩ = some (.exit 1, ⟨[], setE (setE vE 39 (.bool true)) 52 (.bool true), H, 0, ro⟩) := by
      rw [F27B_seq, execL_seq, q0]; rfl
    refine ⟨⟨[], setE (setE (setE vE 39 (.bool true)) 52 (.bool true)) 11 (.int .i64 ((x : Int) + 1)), H, 0, ro⟩, ?_, ?_⟩
    · rw [F27B_for]
      generalize F27B = BB at hb ⊢
      simp [callBody, zipE, execL_seq, execL_region, execL_cond, execL_skip, execL_ret, execL_exit, execL_block, execOps, wantedA, S_mv, S_pick, S_bin, S_un, S_call0, S_call1, S_extract, S_nilEq, S_load, S_alloc, S_box, S_fieldAddr, S_field, Opd.ev, lookupE, lookE_setE, St.put, binA, unA, boolOf, freezeVs, freezeV, freezeD, isP, isPs, resultsA, resultA, finish, old, olds, flat, movedH_same, Nat.min_self, loadA, readCells, cellsV_int, cO_int, cO_bool, cO_str, cO_list, cO_sref, cO_nil0, cO_emp, cellsOk, e0, e4, e11, con_len, con_g5, hlt, hb, hwi, hx]
    · refine ⟨rfl, rfl, e0, by simp [lookE_setE, e1], by simp [lookE_setE, e2], by simp [lookE_setE, e3], by simp [lookE_setE, e4], by simp [lookE_setE, e9], ?_, by simp [lookE_setE]⟩
      have : lookupE (setE (setE (setE vE 39 (.bool true)) 52 (.bool true)) 11 (.int .i64 ((x : Int) + 1))) 10 = lookupE vE 10 := by simp [lookE_setE]
      simp only [this, Bool.false_eq_true, if_false, List.append_nil]
      exact e10
  | true =>
    rw [hok] at q0
    obtain ⟨rv, hw, hrv⟩ := hrec hok
    have hM : (dfs (edgeB vals f s) s d (p ++ [x])).length ≤ 7776 := by
      have h1 := dfs_len (edge := edgeB vals f s) (s := s) d (p ++ [x])
      have h2 : s ^ d ≤ 6 ^ d := Nat.pow_le_pow_left hs6 d
      have h3 : 6 ^ d ≤ 6 ^ 5 := Nat.pow_le_pow_right (by decide) hd
      have h4 : (6 : Nat) ^ 5 = 7776 := by decide
      omega
    have g10 : lookupE (setE (setE vE 39 (.bool true)) 52 (.bool false)) 10 = lookupE vE 10 := by simp [lookE_setE]
    obtain ⟨v', H', r1, r2, r3⟩ := lay27 (tab := tab) (vE := setE (setE vE 39 (.bool true)) 52 (.bool false)) (H := H) (ro := ro) (C := con k fam t bd f s) (sv := sv) (rv := rv) (p := p) (x := x) (n := n) (L := L) con_len (con_isPs htp) (slE_isP g.sv.sl) hp (by omega) e0 (by simp [lookE_setE, e1]) (by simp [lookE_setE, e2]) (by simp [lookE_setE, e3]) (by simp [lookE_setE, e4]) (by simp [lookE_setE, e11])
      (by rw [g10]; exact e10) hw hrv (by omega)
    have hb : execL tab F27B ⟨[], setE vE 39 (.bool true), H, 0, ro⟩ = some (.normal, ⟨[], setE (setE (setE vE 39 (.bool true)) 52 (.bool false)) 10 v', H', 0, ro⟩) := by
      rw [F27B_seq, execL_seq, q0]; exact r1
    refine ⟨⟨[], setE (setE (setE (setE vE 39 (.bool true)) 52 (.bool false)) 10 v') 11 (.int .i64 ((x : Int) + 1)), H', 0, ro⟩, ?_, ?_⟩
    · rw [F27B_for]
      generalize F27B = BB at hb ⊢
      simp [callBody, zipE, execL_seq, execL_region, execL_cond, execL_skip, execL_ret, execL_exit, execL_block, execOps, wantedA, S_mv, S_pick, S_bin, S_un, S_call0, S_call1, S_extract, S_nilEq, S_load, S_alloc, S_box, S_fieldAddr, S_field, Opd.ev, lookupE, lookE_setE, St.put, binA, unA, boolOf, freezeVs, freezeV, freezeD, isP, isPs, resultsA, resultA, finish, old, olds, flat, movedH_same, Nat.min_self, loadA, readCells, cellsV_int, cO_int, cO_bool, cO_str, cO_list, cO_sref, cO_nil0, cO_emp, cellsOk, e0, e4, e11, con_len, con_g5, hlt, hb, hwi, hx]
    · refine ⟨rfl, rfl, by rw [r3]; exact e0, by simp [lookE_setE, e1], by simp [lookE_setE, e2], by simp [lookE_setE, e3], by simp [lookE_setE, e4], by simp [lookE_setE, e9], ?_, by simp [lookE_setE]⟩
      have : lookupE (setE (setE (setE (setE vE 39 (.bool true)) 52 (.bool false)) 10 v') 11 (.int .i64 ((x : Int) + 1))) 10 = v' := by simp [lookE_setE]
      simp only [this, if_true]
      exact r2

set_option maxHeartbeats 4000000 in
theorem paths_loop (T : Tr tab) (g : Gr k fam t bd f s sv vals) (htp : isP t = true) {p : List Nat} (hP : Path (edgeB vals f s) s p) {n d : Nat} (hd : d ≤ 5)
    (hrec : ∀ x, x < s → okV (edgeB vals f s) p (p.getLastD 0) x = true → p.headD 0 < x → ∃ rv, (∀ H, callL tab (.fn 27 [] []) [.agg (con k fam t bd f s), sv, enc (p ++ [x]), .int .i64 (n : Int)] H = some (rv, H, H.length)) ∧ RV rv (dfs (edgeB vals f s) s d (p ++ [x])))
    {st : St} (h : PJ sv (con k fam t bd f s) p n (p.getLastD 0) (p.headD 0 + 1) [] st) :
    ∃ st', execL tab (.loop F27L0) st = some (.exit 0, st') ∧ st'.low = 0 ∧ PE st'.H (lookupE st'.vE 10) (dfs (edgeB vals f s) s (d + 1) p) := by
  obtain ⟨a, b, p1, p2, p3, p4, p5, p6, p7⟩ := head_last hP
  have hs6 := g.s6
  have hpl : p.length ≤ 6 := Nat.le_trans hP.len hs6
  have key := while_loop (tab := tab) (c := F27L0) (N := s - (p.headD 0 + 1))
    (I := fun i st => PJ sv (con k fam t bd f s) p n (p.getLastD 0) (p.headD 0 + 1 + i) (laidL (edgeB vals f s) s d p i) st)
    (Q := fun x st => x = .exit 0 ∧ st.low = 0 ∧ PE st.H (lookupE st.vE 10) (dfs (edgeB vals f s) s (d + 1) p))
    (fun i st hi hI => ?_) (fun st hI => ?_) (s - (p.headD 0 + 1)) 0 st (by omega) h
  · obtain ⟨x, st', r1, rfl, r2⟩ := key
    exact ⟨st', r1, r2⟩
  · have hx : p.headD 0 + 1 + i < s := by omega
    obtain ⟨st', r1, r2⟩ := paths_round T g htp hP.ne hpl (last := p.getLastD 0) (by rw [p4]; exact p6) hx hd (laidL_len hs6 hd (by omega)) (fun hok => hrec _ hx hok (by omega)) hI
    refine ⟨.normal, st', r1, ?_⟩
    rw [if_pos rfl]
    have := laidL_succ (edgeB vals f s) s d p i
    rw [this]
    exact r2
  · obtain ⟨tE, vE, H, low, ro⟩ := st
    obtain ⟨c0, c1, e0, e1, e2, e3, e4, e9, e10, e11⟩ := hI
    simp only at c0 c1 e0 e1 e2 e3 e4 e9 e10 e11
    subst c0; subst c1
    have hxs : p.headD 0 + 1 + (s - (p.headD 0 + 1)) = s := by omega
    rw [hxs] at e11
    rw [laidL_all] at e10
    refine ⟨.exit 0, ⟨[], setE vE 39 (.bool false), H, 0, ro⟩, ?_, by simp, rfl, rfl, ?_⟩
    · rw [F27B_for]
      generalize F27B = BB
      simp [callBody, zipE, execL_seq, execL_region, execL_cond, execL_skip, execL_ret, execL_exit, execL_block, execOps, wantedA, S_mv, S_pick, S_bin, S_un, S_call0, S_call1, S_extract, S_nilEq, S_load, S_alloc, S_box, S_fieldAddr, S_field, Opd.ev, lookupE, lookE_setE, St.put, binA, unA, boolOf, freezeVs, freezeV, freezeD, isP, isPs, resultsA, resultA, finish, old, olds, flat, movedH_same, Nat.min_self, loadA, readCells, cellsV_int, cO_int, cO_bool, cO_str, cO_list, cO_sref, cO_nil0, cO_emp, cellsOk, e0, e4, e11, con_len, con_g5]
    · have : lookupE (setE vE 39 (.bool false)) 10 = lookupE vE 10 := by simp [lookE_setE]
      simp only [this]
      exact e10
end
end Go.Abs.T12
/- ConstraintHolds: the reference's paths as words. -/
namespace Go.Abs.T12
open Go Go.Abs Go.Abs.Cyc
set_option linter.unusedSimpArgs false
section
variable {tab : Nat → Option Fun} {k fam bd : Int} {t sv : V} {f s : Nat} {vals : List Int}

theorem enc_get {p : List Nat} {i a : Nat} (h : p[i]? = some a) : (el (enc p))[i]? = some (.int .i64 (a : Int)) := encL_get h
theorem natOf0 : natOf (.int .i64 0) = some 0 := rfl
theorem enc_sl (p : List Nat) : slE 1 (enc p) = true := rfl
theorem enc_el (p : List Nat) : (el (enc p)).length = p.length := by simp [enc, el, encL]

set_option maxHeartbeats 4000000 in
theorem last_s {p : List Nat} {edge : Nat → Nat → Bool} (hP : Path edge s p) (hs : s ≤ 6) {vE : Env} {H : Heap} {ro : Option Nat} (e2 : lookupE vE 2 = enc p) : execL tab F27P1 ⟨[], vE, H, 0, ro⟩ = some (.normal, ⟨[], setE vE 9 (.int .i64 (p.getLastD 0 : Nat)), H, 0, ro⟩) := by
  obtain ⟨a, b, p1, p2, p3, p4, p5, p6, p7⟩ := head_last hP
  have hpl : p.length ≤ 6 := Nat.le_trans hP.len hs
  have hw : IntKind.i64.wrap ((p.length : Int) - 1) = ((p.length - 1 : Nat) : Int) := by rw [wrap_small] <;> omega
  have hg := enc_get p3
  rw [p4]
  simp [F27P1, callBody, zipE, execL_seq, execL_region, execL_cond, execL_skip, execL_ret, execL_exit, execL_block, execOps, wantedA, S_mv, S_pick, S_bin, S_un, S_call0, S_call1, S_extract, S_nilEq, S_load, S_alloc, S_box, S_fieldAddr, S_field, Opd.ev, lookupE, lookE_setE, St.put, binA, unA, boolOf, freezeVs, freezeV, freezeD, isP, isPs, resultsA, resultA, finish, old, olds, flat, movedH_same, Nat.min_self, loadA, readCells, cellsV_int, cO_int, cO_bool, cO_str, cO_list, cO_sref, cO_nil0, cO_emp, cellsOk, e2, S_len 1, enc_sl, enc_el, hw, S_index, hg]

set_option maxHeartbeats 4000000 in
theorem paths_end (T : Tr tab) (g : Gr k fam t bd f s sv vals) (htp : isP t = true) {p : List Nat} (hP : Path (edgeB vals f s) s p) :
    ∃ v, callBody (execL tab) F27 [.agg (con k fam t bd f s), sv, enc p, .int .i64 (p.length : Int)] [] = some (v, [], 0) ∧ isP v = true ∧ RV v (dfs (edgeB vals f s) s 0 p) := by
  obtain ⟨a, b, p1, p2, p3, p4, p5, p6, p7⟩ := head_last hP
  have hg := enc_get p1
  have hc : cellsOk (con k fam t bd f s) = true := con_ok g.t
  have he := fun H => T.edge g htp (a := b) (b := a) p6 p5 H
  have hpc : isPs (con k fam t bd f s) = true := con_isPs htp
  have htk : List.take 6 (con k fam t bd f s) = con k fam t bd f s := rfl
  have hsp := slE_isP g.sv.sl
  have hcl : closes (edgeB vals f s) p = edgeB vals f s b a := by unfold closes; rw [p4, p2]
  have r1 := last_s (tab := tab) hP g.s6 (vE := [(0, .agg (con k fam t bd f s)), (1, sv), (2, enc p), (3, .int .i64 (p.length : Int)), (4, .ptr 0 0), (8, .nil0)]) (H := [.cells (con k fam t bd f s)]) (ro := none) rfl
  rw [p4] at r1
  rw [F27_seq]
  generalize F27P1 = R1 at *
  cases hb : edgeB vals f s b a with
  | true =>
    rw [hb] at he
    have hlit : ∀ (tE vE : Env) (H : Heap) (low : Nat), lookupE tE 29 = enc p → stepC (callL tab) (Opd.ev tE vE) H low (.lit 1 [.nil0] 1 [(0, (.tmp 29))] true) = some (.list 1 [enc p], H, low) := fun tE vE H low q => by
      show step (Opd.ev tE vE) H low (.lit 1 [.nil0] 1 [(0, (.tmp 29))] true) = _
      simp only [step, List.map, Opd.ev, q]
      rfl
    refine ⟨.list 1 [enc p], ?_, rfl, .inr ⟨?_, ?_⟩⟩
    · simp [F27P0, F27P2, callBody, zipE, execL_seq, execL_region, execL_cond, execL_skip, execL_ret, execL_exit, execL_block, execOps, wantedA, S_mv, S_pick, S_bin, S_un, S_call0, S_call1, S_extract, S_nilEq, S_load, S_alloc, S_box, S_fieldAddr, S_field, Opd.ev, lookupE, lookE_setE, St.put, binA, unA, boolOf, freezeVs, freezeV, freezeD, isP, isPs, resultsA, resultA, finish, old, olds, flat, movedH_same, Nat.min_self, loadA, readCells, cellsV_int, cO_int, cO_bool, cO_str, cO_list, cO_sref, cO_nil0, cO_emp, cellsOk, setE, hc, cellsV, r1, S_len 1, enc_sl, enc_el, con_len, htk, S_index, natOf0, hg, hpc, hsp, he, hlit, inOrder, inOrder0, movedH]
    · simp [dfs, hcl, hb]
    · simp [dfs, hcl, hb]
  | false =>
    rw [hb] at he
    refine ⟨.nil0, ?_, rfl, .inl ⟨?_, .inl rfl⟩⟩
    · simp [F27P0, F27P2, callBody, zipE, execL_seq, execL_region, execL_cond, execL_skip, execL_ret, execL_exit, execL_block, execOps, wantedA, S_mv, S_pick, S_bin, S_un, S_call0, S_call1, S_extract, S_nilEq, S_load, S_alloc, S_box, S_fieldAddr, S_field, Opd.ev, lookupE, lookE_setE, St.put, binA, unA, boolOf, freezeVs, freezeV, freezeD, isP, isPs, resultsA, resultA, finish, old, olds, flat, movedH_same, Nat.min_self, loadA, readCells, cellsV_int, cO_int, cO_bool, cO_str, cO_list, cO_sref, cO_nil0, cO_emp, cellsOk, setE, hc, cellsV, r1, S_len 1, enc_sl, enc_el, con_len, htk, S_index, natOf0, hg, hpc, hsp, he, inOrder, inOrder0, movedH]
    · simp [dfs, hcl, hb]

theorem isPs_encs : ∀ L : List (List Nat), isPs (L.map enc) = true
  | [] => rfl
  | a :: r => by simp [isPs, enc_isP, isPs_encs r]

theorem frz_rows {l : Nat} {L : List (List Nat)} {H3 : Heap} {low : Nat} (h : H3[l]? = some (.row 1 (L.map enc) false)) : freezeV H3 low (.sref l 1 0 L.length L.length) = some (.list 1 (L.map enc), H3.set l (.row 1 (L.map enc) true), min low l) := by
  have h1 := isPs_encs L
  have h2 : (L.map enc).length = L.length := List.length_map _
  have h3 : ((L.map enc).drop 0).take L.length = L.map enc := by rw [List.drop_zero, List.take_of_length_le (by omega)]
  unfold freezeV
  simp only [freezeD, isP, h, h1, h2, Bool.false_eq_true, if_false, if_true, Nat.zero_add, Nat.le_refl, and_self, h3]

set_option maxHeartbeats 4000000 in
theorem paths_more (T : Tr tab) (g : Gr k fam t bd f s sv vals) (htp : isP t = true) {p : List Nat} (hP : Path (edgeB vals f s) s p) {d n : Nat} (hd : d ≤ 5) (hn : p.length ≠ n)
    (hrec : ∀ x, x < s → okV (edgeB vals f s) p (p.getLastD 0) x = true → p.headD 0 < x → ∃ rv, (∀ H, callL tab (.fn 27 [] []) [.agg (con k fam t bd f s), sv, enc (p ++ [x]), .int .i64 (n : Int)] H = some (rv, H, H.length)) ∧ RV rv (dfs (edgeB vals f s) s d (p ++ [x]))) :
    ∃ v, callBody (execL tab) F27 [.agg (con k fam t bd f s), sv, enc p, .int .i64 (n : Int)] [] = some (v, [], 0) ∧ isP v = true ∧ RV v (dfs (edgeB vals f s) s (d + 1) p) := by
  obtain ⟨a, b, p1, p2, p3, p4, p5, p6, p7⟩ := head_last hP
  have hg := enc_get p1
  have hs6 := g.s6
  have hc : cellsOk (con k fam t bd f s) = true := con_ok g.t
  have hne : ((p.length : Int) == (n : Int)) = false := by rw [beq_eq_false_iff_ne]; omega
  have hwa : IntKind.i64.wrap ((a : Int) + 1) = (a : Int) + 1 := by rw [wrap_small] <;> omega
  have r1 := last_s (tab := tab) hP g.s6 (vE := [(0, .agg (con k fam t bd f s)), (1, sv), (2, enc p), (3, .int .i64 (n : Int)), (4, .ptr 0 0), (8, .nil0)]) (H := [.cells (con k fam t bd f s)]) (ro := none) rfl
  rw [p4] at r1
  obtain ⟨st', r2, c1, r3⟩ := paths_loop T g htp hP (n := n) hd hrec (st := ⟨[], [(0, .agg (con k fam t bd f s)), (1, sv), (2, enc p), (3, .int .i64 (n : Int)), (4, .ptr 0 0), (8, .nil0), (9, .int .i64 (b : Int)), (21, .bool false), (10, .emp), (11, .int .i64 ((a : Int) + 1))], [.cells (con k fam t bd f s)], 0, none⟩)
    ⟨rfl, rfl, rfl, rfl, rfl, rfl, rfl, by rw [p4]; rfl, .no, by rw [p2]; rfl⟩
  obtain ⟨tE, vE, H, low, ro⟩ := st'
  simp only at c1 r3
  subst c1
  have hlit : ∀ (tE vE : Env) (H : Heap) (low : Nat), stepC (callL tab) (Opd.ev tE vE) H low (.lit 1 [.nil0] 0 [] true) = some (.emp, H, low) := fun _ _ _ _ => rfl
  rw [F27_seq]
  have p2' : execL tab F27P2 ⟨[], [(0, .agg (con k fam t bd f s)), (1, sv), (2, enc p), (3, .int .i64 (n : Int)), (4, .ptr 0 0), (8, .nil0), (9, .int .i64 (b : Int))], [.cells (con k fam t bd f s)], 0, none⟩ = some (.normal, ⟨[], [(0, .agg (con k fam t bd f s)), (1, sv), (2, enc p), (3, .int .i64 (n : Int)), (4, .ptr 0 0), (8, .nil0), (9, .int .i64 (b : Int)), (21, .bool false)], [.cells (con k fam t bd f s)], 0, none⟩) := by
    unfold F27P2
    rw [execL_seq, execL_region]
    simp [execOps, wantedA, S_mv, S_len 1, enc_sl, enc_el, S_bin, Opd.ev, lookupE, B_eql, hne, St.put, setE, execL_cond, boolOf, execL_skip]
  generalize F27P1 = R1 at *
  generalize F27P2 = R2 at *
  generalize dfs (edgeB vals f s) s (d + 1) p = D at r3 ⊢
  generalize hv : lookupE vE 10 = v at r3
  cases r3 with
  | no =>
    refine ⟨.emp, ?_, rfl, .inl ⟨rfl, .inr rfl⟩⟩
    simp [F27P0, F27P3, F27P4, F27P5, F27P6, callBody, zipE, execL_seq, execL_region, execL_cond, execL_skip, execL_ret, execL_exit, execL_block, execOps, wantedA, S_mv, S_pick, S_bin, S_un, S_call0, S_call1, S_extract, S_nilEq, S_load, S_alloc, S_box, S_fieldAddr, S_field, Opd.ev, lookupE, lookE_setE, St.put, binA, unA, boolOf, freezeVs, freezeV, freezeD, isP, isPs, resultsA, resultA, finish, old, olds, flat, movedH_same, Nat.min_self, loadA, readCells, cellsV_int, cO_int, cO_bool, cO_str, cO_list, cO_sref, cO_nil0, cO_emp, cellsOk, setE, hc, cellsV, r1, p2', hlit, enc_sl, S_index, natOf0, hg, hwa, r2, hv]
  | ro l ps h1 hne2 hl =>
    have htake : List.take D.length (D.map enc) = D.map enc := List.take_of_length_le (by rw [List.length_map]; exact Nat.le_refl _)
    refine ⟨.list 1 (D.map enc), ?_, rfl, .inr ⟨hne2, rfl⟩⟩
    simp [F27P0, F27P3, F27P4, F27P5, F27P6, callBody, zipE, execL_seq, execL_region, execL_cond, execL_skip, execL_ret, execL_exit, execL_block, execOps, wantedA, S_mv, S_pick, S_bin, S_un, S_call0, S_call1, S_extract, S_nilEq, S_load, S_alloc, S_box, S_fieldAddr, S_field, Opd.ev, lookupE, lookE_setE, St.put, binA, unA, boolOf, freezeVs, freezeV, freezeD, isP, isPs, resultsA, resultA, finish, old, olds, flat, movedH_same, Nat.min_self, loadA, readCells, cellsV_int, cO_int, cO_bool, cO_str, cO_list, cO_sref, cO_nil0, cO_emp, cellsOk, setE, hc, cellsV, r1, p2', hlit, enc_sl, S_index, natOf0, hg, hwa, r2, hv, hl, isPs_encs, htake]
end
end Go.Abs.T12
/- ConstraintHolds: the reference's Cycle. -/
namespace Go.Abs.T12
open Go Go.Abs Go.Abs.Cyc
set_option linter.unusedSimpArgs false
section
variable {tab : Nat → Option Fun} {k fam bd : Int} {t sv : V} {f s : Nat} {vals : List Int}

theorem Tr.over (T : Tr tab) (spec : List V → Option V) : Tr (Abs.over tab 27 spec) where
  h41 := by
    obtain ⟨sp, h1, h2⟩ := T.h41
    exact ⟨sp, (over_other _ _ (by decide)).trans h1, h2⟩
  h42 := by
    obtain ⟨sp, h1, h2⟩ := T.h42
    exact ⟨sp, (over_other _ _ (by decide)).trans h1, h2⟩

theorem next_path {edge : Nat → Nat → Bool} {p : List Nat} {x : Nat} (hP : Path edge s p) (hx : x < s) (hok : okV edge p (p.getLastD 0) x = true) (hlt : p.headD 0 < x) : Path edge s (p ++ [x]) := by
  refine (hP.next (l' := p ++ [x]) ?_).1
  unfold nextP
  refine List.mem_map.2 ⟨x, List.mem_filter.2 ⟨?_, hok⟩, rfl⟩
  rw [List.mem_range'_1]
  omega

theorem paths_w (T : Tr tab) (g : Gr k fam t bd f s sv vals) (htp : isP t = true) : ∀ (D d : Nat), d ≤ D → d ≤ 6 → ∀ p, Path (edgeB vals f s) s p →
    ∃ v, recWord tab 27 F27 (D + 1) [.agg (con k fam t bd f s), sv, enc p, .int .i64 ((p.length + d : Nat) : Int)] = some v ∧ isP v = true ∧ RV v (dfs (edgeB vals f s) s d p)
  | D, 0, _, _, p, hP => by
    obtain ⟨v, h1, h2, h3⟩ := paths_end (T.over (recWord tab 27 F27 D)) g htp hP
    exact ⟨v, recWord_eq h1 h2, h2, h3⟩
  | 0, d + 1, h, _, _, _ => absurd h (by omega)
  | D + 1, d + 1, h, h6, p, hP => by
    obtain ⟨v, h1, h2, h3⟩ := paths_more (T.over (recWord tab 27 F27 (D + 1))) g htp hP (d := d) (n := p.length + (d + 1)) (by omega) (by omega) (fun x hx hok hlt => by
      have hP' := next_path hP hx hok hlt
      obtain ⟨rv, q1, q2, q3⟩ := paths_w T g htp D d (by omega) (by omega) (p ++ [x]) hP'
      refine ⟨rv, fun H => callL_word (over_same _ _ _) (by simp [isPs, isP, con, htp, slE_isP g.sv.sl, enc]) ?_ H, q3⟩
      have e : (p ++ [x]).length + d = p.length + (d + 1) := by simp; omega
      rw [e] at q1
      exact q1)
    exact ⟨v, recWord_eq h1 h2, h2, h3⟩

/-- The words that the reference's Cycle needs. -/
structure Tz (tab : Nat → Option Fun) : Prop where
  h22 : ∃ spec, tab 22 = some (.ext spec) ∧ ∀ (k fam b f s : Int) (tv : V) (l : List (Int × Int)) (n : Nat), VT tv l → n < 4611686018427387904 → spec [.agg (con k fam tv b f s), .int .i64 n] = some (.bool (insideB k f s l n))
  h27 : ∃ spec, tab 27 = some (.ext spec) ∧ ∀ (k fam bd : Int) (t sv : V) (f s : Nat) (vals : List Int), Gr k fam t bd f s sv vals → isP t = true → ∀ d a, d ≤ 5 → a < s → ∃ v, spec [.agg (con k fam t bd f s), sv, enc [a], .int .i64 ((1 + d : Nat) : Int)] = some v ∧ RV v (dfs (edgeB vals f s) s d [a])

theorem Tz.paths (T : Tz tab) (g : Gr k fam t bd f s sv vals) (htp : isP t = true) {d a : Nat} (hd : d ≤ 5) (ha : a < s) : ∃ v, (∀ H, callL tab (.fn 27 [] []) [.agg (con k fam t bd f s), sv, enc [a], .int .i64 ((1 + d : Nat) : Int)] H = some (v, H, H.length)) ∧ RV v (dfs (edgeB vals f s) s d [a]) := by
  obtain ⟨spec, h1, h2⟩ := T.h27
  obtain ⟨v, q1, q2⟩ := h2 _ _ _ _ _ _ _ _ g htp d a hd ha
  exact ⟨v, fun H => callL_word h1 (by simp [isPs, isP, con, htp, slE_isP g.sv.sl, enc]) q1 H, q2⟩
theorem Tz.inside (T : Tz tab) {k fam b f s : Int} {tv : V} {l : List (Int × Int)} {n : Nat} (h : VT tv l) (hn : n < 4611686018427387904) (H : Heap) : callL tab (.fn 22 [] []) [.agg (con k fam tv b f s), .int .i64 n] H = some (.bool (insideB k f s l n), H, H.length) := by
  obtain ⟨spec, h1, h2⟩ := T.h22
  exact callL_word h1 (by simp [isPs, isP, con, slE_isP h.sl]) (h2 _ _ _ _ _ _ _ _ h hn) H

def F12A : ACode := .seq (.region [⟨some (30, false), .load (some 6) (.var 2), none⟩, ⟨some (31, false), .mv (.var 1), none⟩, ⟨some (32, false), .mv (.var 6), none⟩, ⟨some (33, false), .lit 1 [.int .i64 0] 1 [(0, (.tmp 32))] true, none⟩, ⟨some (34, false), .mv (.var 5), none⟩, ⟨some (35, false), .call false (.func 27) [(.tmp 30), (.tmp 31), (.tmp 33), (.tmp 34)], none⟩, ⟨some (7, true), .mv (.tmp 35), none⟩] none) (.seq (.region [⟨some (36, false), .mv (.var 7), none⟩, ⟨some (37, false), .len 1 (.tmp 36), none⟩, ⟨some (38, true), .bin .gtr (.tmp 37) (.const (.int .i64 0)), none⟩] none) (.cond (.var 38) (.seq (.region [⟨some (39, false), .mv (.var 7), none⟩, ⟨some (40, false), .indexAddr 1 (.tmp 39) (.const (.int .i64 0)), none⟩, ⟨some (41, false), .load none (.tmp 40), none⟩, ⟨some (4, true), .mv (.tmp 41), none⟩] none) (.ret)) (.skip)))
theorem F12A_for : F12L0 = .seq (.seq (.region [⟨some (24, false), .mv (.var 6), none⟩, ⟨some (25, false), .fieldAddr 5 (.var 2), none⟩, ⟨some (26, false), .load none (.tmp 25), none⟩, ⟨some (27, true), .bin .lss (.tmp 24) (.tmp 26), none⟩] none) (.cond (.var 27) (.skip) (.exit 2))) (.seq (.block 3 F12A) (.region [⟨some (28, false), .mv (.var 6), none⟩, ⟨some (29, false), .bin .add (.tmp 28) (.const (.int .i64 1)), none⟩, ⟨some (6, true), .mv (.tmp 29), none⟩] none)) := rfl
def F12B : ACode := .seq (.region [⟨some (6, true), .mv (.const (.int .i64 0)), none⟩] none) (.block 2 (.loop F12L0))
theorem F12B_for : F12L1 = .seq (.seq (.region [⟨some (18, false), .mv (.var 5), none⟩, ⟨some (19, false), .fieldAddr 5 (.var 2), none⟩, ⟨some (20, false), .load none (.tmp 19), none⟩, ⟨some (21, true), .bin .leq (.tmp 18) (.tmp 20), none⟩] none) (.cond (.var 21) (.skip) (.exit 0))) (.seq (.block 1 F12B) (.region [⟨some (22, false), .mv (.var 5), none⟩, ⟨some (23, false), .bin .add (.tmp 22) (.const (.int .i64 1)), none⟩, ⟨some (5, true), .mv (.tmp 23), none⟩] none)) := rfl
def F12P0 : ACode := .region [⟨some (2, true), .box (.var 0), none⟩, ⟨some (4, true), .mv (.const (.nil0)), none⟩] none
def F12P1 : ACode := .seq (.region [⟨some (8, false), .fieldAddr 0 (.var 2), none⟩, ⟨some (9, false), .load none (.tmp 8), none⟩, ⟨some (10, false), .bin .neq (.tmp 9) (.const (.int .i64 1)), none⟩, ⟨some (11, false), .mv (.tmp 10), none⟩, ⟨some (12, false), .load (some 6) (.var 2), some ((.tmp 11), false)⟩, ⟨some (13, false), .mv (.var 1), some ((.tmp 11), false)⟩, ⟨some (14, false), .len 1 (.tmp 13), some ((.tmp 11), false)⟩, ⟨some (15, false), .call false (.func 22) [(.tmp 12), (.tmp 14)], some ((.tmp 11), false)⟩, ⟨some (16, false), .un .not (.tmp 15), some ((.tmp 11), false)⟩, ⟨some (17, true), .pick (.tmp 11) (.const (.bool true)) (.tmp 16), none⟩] none) (.cond (.var 17) (.seq (.region [⟨some (4, true), .mv (.const (.nil0)), none⟩] none) (.ret)) (.skip))
def F12P2 : ACode := .seq (.region [⟨some (5, true), .mv (.const (.int .i64 1)), none⟩] none) (.block 0 (.loop F12L1))
def F12P3 : ACode := .region [⟨some (4, true), .mv (.const (.nil0)), none⟩] none
def F12P4 : ACode := .ret
theorem F12_seq : F12 = ⟨42, .seq F12P0 (.seq F12P1 (.seq F12P2 (.seq F12P3 F12P4))), [.tmp 4], false⟩ := rfl

/-- Where the reference's search stands. -/
structure CJ (sv : V) (c : List V) (j a : Nat) (st : St) : Prop where
  low : st.low = 0
  e0 : st.H = [.cells c]
  e1 : lookupE st.vE 1 = sv
  e2 : lookupE st.vE 2 = .ptr 0 0
  e5 : lookupE st.vE 5 = .int .i64 ((1 + j : Nat) : Int)
  e6 : lookupE st.vE 6 = .int .i64 (a : Int)
end
end Go.Abs.T12
/- ConstraintHolds: the reference's Cycle, whole. -/
namespace Go.Abs.T12
open Go Go.Abs Go.Abs.Cyc
set_option linter.unusedSimpArgs false
section
variable {tab : Nat → Option Fun} {k fam bd : Int} {t sv : V} {f s : Nat} {vals : List Int}

theorem lit_one {call : CallT} (tE vE : Env) (H : Heap) (low a : Nat) (q : lookupE tE 32 = .int .i64 (a : Int)) : stepC call (Opd.ev tE vE) H low (.lit 1 [.int .i64 0] 1 [(0, (.tmp 32))] true) = some (enc [a], H, low) := by
  show step (Opd.ev tE vE) H low (.lit 1 [.int .i64 0] 1 [(0, (.tmp 32))] true) = _
  simp only [step, List.map, Opd.ev, q]
  rfl

set_option maxHeartbeats 4000000 in
theorem cyc_try (T : Tz tab) (g : Gr k fam t bd f s sv vals) (htp : isP t = true) {j a : Nat} (hj : j ≤ 5) (ha : a < s) {st : St} (h : CJ sv (con k fam t bd f s) j a st) (htE : st.tE = []) :
    ∃ x st', execL tab F12A st = some (x, st') ∧ ((x = .normal ∧ dfs (edgeB vals f s) s j [a] = [] ∧ st'.tE = [] ∧ CJ sv (con k fam t bd f s) j a st') ∨ (x = .ret ∧ ∃ p, (dfs (edgeB vals f s) s j [a]).head? = some p ∧ lookupE st'.vE 4 = enc p ∧ st'.low = 0 ∧ st'.H = [.cells (con k fam t bd f s)])) := by
  obtain ⟨tE, vE, H, low, ro⟩ := st
  obtain ⟨c1, e0, e1, e2, e5, e6⟩ := h
  simp only at c1 e0 e1 e2 e5 e6 htE
  subst c1; subst e0; subst htE
  obtain ⟨v, hw, hrv⟩ := T.paths g htp hj ha
  have hpc : isPs (con k fam t bd f s) = true := con_isPs htp
  have htk : List.take 6 (con k fam t bd f s) = con k fam t bd f s := rfl
  have hsp := slE_isP g.sv.sl
  have hi : isP (enc [a]) = true := rfl
  have hcast : ((1 + j : Nat) : Int) = 1 + (j : Int) := by push_cast; rfl
  have hlit := fun (tE vE : Env) (H : Heap) (low : Nat) => lit_one (call := callL tab) tE vE H low a
  rw [hcast] at e5 hw
  have r1 : ∀ R, execL tab (.seq (.region [⟨some (30, false), .load (some 6) (.var 2), none⟩, ⟨some (31, false), .mv (.var 1), none⟩, ⟨some (32, false), .mv (.var 6), none⟩, ⟨some (33, false), .lit 1 [.int .i64 0] 1 [(0, (.tmp 32))] true, none⟩, ⟨some (34, false), .mv (.var 5), none⟩, ⟨some (35, false), .call false (.func 27) [(.tmp 30), (.tmp 31), (.tmp 33), (.tmp 34)], none⟩, ⟨some (7, true), .mv (.tmp 35), none⟩] none) R) ⟨[], vE, [.cells (con k fam t bd f s)], 0, ro⟩ = execL tab R ⟨[], setE vE 7 v, [.cells (con k fam t bd f s)], 0, ro⟩ := fun R => by
    simp [callBody, zipE, execL_seq, execL_region, execL_cond, execL_skip, execL_ret, execL_exit, execL_block, execOps, wantedA, S_mv, S_pick, S_bin, S_un, S_call0, S_call1, S_extract, S_nilEq, S_load, S_alloc, S_box, S_fieldAddr, S_field, Opd.ev, lookupE, lookE_setE, St.put, binA, unA, boolOf, freezeVs, freezeV, freezeD, isP, isPs, resultsA, resultA, finish, old, olds, flat, movedH_same, Nat.min_self, loadA, readCells, cellsV_int, cO_int, cO_bool, cO_str, cO_list, cO_sref, cO_nil0, cO_emp, cellsOk, e1, e2, e5, e6, con_len, htk, hpc, hsp, hi, hlit, hw]
  have f1 : lookupE (setE vE 7 v) 1 = sv := by simp [lookE_setE, e1]
  have f2 : lookupE (setE vE 7 v) 2 = .ptr 0 0 := by simp [lookE_setE, e2]
  have f5 : lookupE (setE vE 7 v) 5 = .int .i64 (1 + (j : Int)) := by simp [lookE_setE, e5]
  have f6 : lookupE (setE vE 7 v) 6 = .int .i64 (a : Int) := by simp [lookE_setE, e6]
  have f7 : lookupE (setE vE 7 v) 7 = v := by simp [lookE_setE]
  generalize setE vE 7 v = vF at *
  unfold F12A
  rw [r1]
  rcases hrv with ⟨hD, hv⟩ | ⟨hD, hv⟩
  · have hlen : ∀ (tE vE : Env) (H : Heap) (low : Nat), lookupE tE 36 = v → stepC (callL tab) (Opd.ev tE vE) H low (.len 1 (.tmp 36)) = some (.int .i64 0, H, low) := fun tE vE H low e => by
      rcases hv with hv | hv <;> · rw [S_len 1 (by simp only [Opd.ev]; rw [e, hv]; rfl)]; simp only [Opd.ev]; rw [e, hv]; rfl
    refine ⟨.normal, ⟨[], setE vF 38 (.bool false), [.cells (con k fam t bd f s)], 0, ro⟩, ?_, .inl ⟨rfl, hD, rfl, rfl, rfl, by simp [lookE_setE, f1], by simp [lookE_setE, f2], by rw [hcast]; simp [lookE_setE, f5], by simp [lookE_setE, f6]⟩⟩
    simp [callBody, zipE, execL_seq, execL_region, execL_cond, execL_skip, execL_ret, execL_exit, execL_block, execOps, wantedA, S_mv, S_pick, S_bin, S_un, S_call0, S_call1, S_extract, S_nilEq, S_load, S_alloc, S_box, S_fieldAddr, S_field, Opd.ev, lookupE, lookE_setE, St.put, binA, unA, boolOf, freezeVs, freezeV, freezeD, isP, isPs, resultsA, resultA, finish, old, olds, flat, movedH_same, Nat.min_self, loadA, readCells, cellsV_int, cO_int, cO_bool, cO_str, cO_list, cO_sref, cO_nil0, cO_emp, cellsOk, f7, hlen]
  · generalize hE : dfs (edgeB vals f s) s j [a] = D at hD hv ⊢
    cases D with
    | nil => exact absurd rfl hD
    | cons p r =>
      have hlen : ∀ (tE vE : Env) (H : Heap) (low : Nat), lookupE tE 36 = v → stepC (callL tab) (Opd.ev tE vE) H low (.len 1 (.tmp 36)) = some (.int .i64 ((r.length : Int) + 1), H, low) := fun tE vE H low e => by
        rw [S_len 1 (by simp only [Opd.ev]; rw [e, hv]; rfl)]; simp only [Opd.ev]; rw [e, hv]; simp [el]
      have hpos : decide ((0 : Int) < (r.length : Int) + 1) = true := decide_eq_true (by omega)
      have hidx : ∀ (tE vE : Env) (H : Heap) (low : Nat), lookupE tE 39 = v → stepC (callL tab) (Opd.ev tE vE) H low (.indexAddr 1 (.tmp 39) (.const (.int .i64 0))) = some (.pin [enc p] 0, H, low) := fun tE vE H low e => by
        rw [S_index (by simp only [Opd.ev]; rw [e, hv]; rfl)]; simp only [Opd.ev]; rw [e, hv]; rfl
      refine ⟨.ret, ⟨[], setE (setE vF 38 (.bool true)) 4 (enc p), [.cells (con k fam t bd f s)], 0, ro⟩, ?_, .inr ⟨rfl, p, rfl, by simp [lookE_setE], rfl, rfl⟩⟩
      simp [callBody, zipE, execL_seq, execL_region, execL_cond, execL_skip, execL_ret, execL_exit, execL_block, execOps, wantedA, S_mv, S_pick, S_bin, S_un, S_call0, S_call1, S_extract, S_nilEq, S_load, S_alloc, S_box, S_fieldAddr, S_field, Opd.ev, lookupE, lookE_setE, St.put, binA, unA, boolOf, freezeVs, freezeV, freezeD, isP, isPs, resultsA, resultA, finish, old, olds, flat, movedH_same, Nat.min_self, loadA, readCells, cellsV_int, cO_int, cO_bool, cO_str, cO_list, cO_sref, cO_nil0, cO_emp, cellsOk, f7, hlen, hpos, hidx]

set_option maxHeartbeats 4000000 in
theorem cyc_inner (T : Tz tab) (g : Gr k fam t bd f s sv vals) (htp : isP t = true) {j : Nat} (hj : j ≤ 5) {st : St} (h : CJ sv (con k fam t bd f s) j 0 st) (htE : st.tE = []) :
    ∃ x st', execL tab (.loop F12L0) st = some (x, st') ∧ ((x = .exit 2 ∧ (∀ a, a < s → dfs (edgeB vals f s) s j [a] = []) ∧ CJ sv (con k fam t bd f s) j s st') ∨ (x = .ret ∧ ∃ a p, a < s ∧ (∀ y, y < a → dfs (edgeB vals f s) s j [y] = []) ∧ (dfs (edgeB vals f s) s j [a]).head? = some p ∧ lookupE st'.vE 4 = enc p ∧ st'.low = 0 ∧ st'.H = [.cells (con k fam t bd f s)])) := by
  have hs6 := g.s6
  refine while_loop (tab := tab) (c := F12L0) (N := s)
    (I := fun a st => st.tE = [] ∧ CJ sv (con k fam t bd f s) j a st ∧ ∀ y, y < a → dfs (edgeB vals f s) s j [y] = [])
    (Q := fun x st => (x = .exit 2 ∧ (∀ a, a < s → dfs (edgeB vals f s) s j [a] = []) ∧ CJ sv (con k fam t bd f s) j s st) ∨ (x = .ret ∧ ∃ a p, a < s ∧ (∀ y, y < a → dfs (edgeB vals f s) s j [y] = []) ∧ (dfs (edgeB vals f s) s j [a]).head? = some p ∧ lookupE st.vE 4 = enc p ∧ st.low = 0 ∧ st.H = [.cells (con k fam t bd f s)]))
    (fun a st ha hI => ?_) (fun st hI => ?_) s 0 st (by omega) ⟨htE, h, fun y hy => absurd hy (by omega)⟩
  · obtain ⟨c0, hc, hn⟩ := hI
    obtain ⟨tE, vE, H, low, ro⟩ := st
    obtain ⟨c1, e0, e1, e2, e5, e6⟩ := hc
    simp only at c0 c1 e0 e1 e2 e5 e6
    subst c0; subst c1; subst e0
    have hwa : IntKind.i64.wrap ((a : Int) + 1) = (a : Int) + 1 := by rw [wrap_small] <;> omega
    obtain ⟨x, st', r, q⟩ := cyc_try T g htp hj ha (st := ⟨[], setE vE 27 (.bool true), [.cells (con k fam t bd f s)], 0, ro⟩) ⟨rfl, rfl, by simp [lookE_setE, e1], by simp [lookE_setE, e2], by simp [lookE_setE, e5], by simp [lookE_setE, e6]⟩ rfl
    rw [F12A_for]
    generalize F12A = BB at r ⊢
    obtain ⟨tE', vE', H', low', ro'⟩ := st'
    rcases q with ⟨rfl, hD, q0, hq⟩ | ⟨rfl, p, hp, h4, hlow, hH⟩
    · obtain ⟨d1, g0, g1, g2, g5, g6⟩ := hq
      simp only at q0 d1 g0 g1 g2 g5 g6
      subst q0; subst d1; subst g0
      refine ⟨.normal, ⟨[], setE vE' 6 (.int .i64 ((a : Int) + 1)), [.cells (con k fam t bd f s)], 0, ro'⟩, ?_, ?_⟩
      · simp [callBody, zipE, execL_seq, execL_region, execL_cond, execL_skip, execL_ret, execL_exit, execL_block, execOps, wantedA, S_mv, S_pick, S_bin, S_un, S_call0, S_call1, S_extract, S_nilEq, S_load, S_alloc, S_box, S_fieldAddr, S_field, Opd.ev, lookupE, lookE_setE, St.put, binA, unA, boolOf, freezeVs, freezeV, freezeD, isP, isPs, resultsA, resultA, finish, old, olds, flat, movedH_same, Nat.min_self, loadA, readCells, cellsV_int, cO_int, cO_bool, cO_str, cO_list, cO_sref, cO_nil0, cO_emp, cellsOk, e2, e6, con_len, con_g5, ha, r, g6, hwa]
      · rw [if_pos rfl]
        refine ⟨rfl, ⟨rfl, rfl, by simp [lookE_setE, g1], by simp [lookE_setE, g2], by simp [lookE_setE, g5], by simp [lookE_setE]⟩, fun y hy => ?_⟩
        rcases Nat.lt_or_ge y a with q | q
        · exact hn y q
        · have : y = a := by omega
          rw [this]; exact hD
    · simp only at h4 hlow hH
      subst hlow; subst hH
      refine ⟨.ret, ⟨tE', vE', [.cells (con k fam t bd f s)], 0, ro'⟩, ?_, ?_⟩
      · simp [callBody, zipE, execL_seq, execL_region, execL_cond, execL_skip, execL_ret, execL_exit, execL_block, execOps, wantedA, S_mv, S_pick, S_bin, S_un, S_call0, S_call1, S_extract, S_nilEq, S_load, S_alloc, S_box, S_fieldAddr, S_field, Opd.ev, lookupE, lookE_setE, St.put, binA, unA, boolOf, freezeVs, freezeV, freezeD, isP, isPs, resultsA, resultA, finish, old, olds, flat, movedH_same, Nat.min_self, loadA, readCells, cellsV_int, cO_int, cO_bool, cO_str, cO_list, cO_sref, cO_nil0, cO_emp, cellsOk, e2, e6, con_len, con_g5, ha, r]
      · rw [if_neg (by simp)]
        exact .inr ⟨rfl, a, p, ha, hn, hp, h4, rfl, rfl⟩
  · obtain ⟨c0, hc, hn⟩ := hI
    obtain ⟨tE, vE, H, low, ro⟩ := st
    obtain ⟨c1, e0, e1, e2, e5, e6⟩ := hc
    simp only at c0 c1 e0 e1 e2 e5 e6
    subst c0; subst c1; subst e0
    refine ⟨.exit 2, ⟨[], setE vE 27 (.bool false), [.cells (con k fam t bd f s)], 0, ro⟩, ?_, by simp, .inl ⟨rfl, hn, rfl, rfl, by simp [lookE_setE, e1], by simp [lookE_setE, e2], by simp [lookE_setE, e5], by simp [lookE_setE, e6]⟩⟩
    rw [F12A_for]
    generalize F12A = BB
    simp [callBody, zipE, execL_seq, execL_region, execL_cond, execL_skip, execL_ret, execL_exit, execL_block, execOps, wantedA, S_mv, S_pick, S_bin, S_un, S_call0, S_call1, S_extract, S_nilEq, S_load, S_alloc, S_box, S_fieldAddr, S_field, Opd.ev, lookupE, lookE_setE, St.put, binA, unA, boolOf, freezeVs, freezeV, freezeD, isP, isPs, resultsA, resultA, finish, old, olds, flat, movedH_same, Nat.min_self, loadA, readCells, cellsV_int, cO_int, cO_bool, cO_str, cO_list, cO_sref, cO_nil0, cO_emp, cellsOk, e2, e6, con_len, con_g5]
end
end Go.Abs.T12
/- ConstraintHolds: the reference's Cycle and Holds. -/
namespace Go.Abs.T12
open Go Go.Abs Go.Abs.Cyc
set_option linter.unusedSimpArgs false
def F9P0 : ACode := .region [⟨some (2, true), .box (.var 0), none⟩, ⟨some (4, true), .mv (.const (.bool false)), none⟩] none
def F9P1 : ACode := .seq (.region [⟨some (5, false), .load (some 6) (.var 2), none⟩, ⟨some (6, false), .mv (.var 1), none⟩, ⟨some (7, false), .len 1 (.tmp 6), none⟩, ⟨some (8, false), .call false (.func 22) [(.tmp 5), (.tmp 7)], none⟩, ⟨some (9, true), .un .not (.tmp 8), none⟩] none) (.cond (.var 9) (.seq (.region [⟨some (4, true), .mv (.const (.bool false)), none⟩] none) (.ret)) (.skip))
def F9P2 : ACode := .seq (.region [⟨some (10, false), .fieldAddr 0 (.var 2), none⟩, ⟨some (11, false), .load none (.tmp 10), none⟩, ⟨some (12, true), .bin .eql (.tmp 11) (.const (.int .i64 1)), none⟩] none) (.cond (.var 12) (.seq (.region [⟨some (13, false), .load (some 6) (.var 2), none⟩, ⟨some (14, false), .mv (.var 1), none⟩, ⟨some (15, false), .call false (.func 12) [(.tmp 13), (.tmp 14)], none⟩, ⟨some (16, false), .len 1 (.tmp 15), none⟩, ⟨some (17, false), .bin .eql (.tmp 16) (.const (.int .i64 0)), none⟩, ⟨some (4, true), .mv (.tmp 17), none⟩] none) (.ret)) (.skip))
def F9P3 : ACode := .region [⟨some (18, false), .fieldAddr 2 (.var 2), none⟩, ⟨some (19, false), .load (some 2) (.tmp 18), none⟩, ⟨some (20, false), .mv (.var 1), none⟩, ⟨some (21, false), .call false (.func 23) [(.tmp 19), (.tmp 20)], none⟩, ⟨some (4, true), .mv (.tmp 21), none⟩] none
def F9P4 : ACode := .ret
theorem F9_seq : F9 = ⟨22, .seq F9P0 (.seq F9P1 (.seq F9P2 (.seq F9P3 F9P4))), [.tmp 4], false⟩ := rfl
section
variable {tab : Nat → Option Fun} {k fam bd : Int} {t sv : V} {f s : Nat} {vals : List Int}

set_option maxHeartbeats 4000000 in
theorem cyc_outer (T : Tz tab) (g : Gr k fam t bd f s sv vals) (htp : isP t = true) {vE : Env} (e1 : lookupE vE 1 = sv) (e2 : lookupE vE 2 = .ptr 0 0) (e4 : lookupE vE 4 = .nil0) (e5 : lookupE vE 5 = .int .i64 1) :
    ∃ x st', execL tab (.loop F12L1) ⟨[], vE, [.cells (con k fam t bd f s)], 0, none⟩ = some (x, st') ∧ st'.low = 0 ∧ st'.H = [.cells (con k fam t bd f s)] ∧ ((x = .exit 0 ∧ cycle (edgeB vals f s) s = none) ∨ (x = .ret ∧ ∃ p, cycle (edgeB vals f s) s = some p ∧ lookupE st'.vE 4 = enc p)) := by
  have hs6 := g.s6
  refine while_loop (tab := tab) (c := F12L1) (N := s)
    (I := fun j st => st.tE = [] ∧ st.low = 0 ∧ st.H = [.cells (con k fam t bd f s)] ∧ lookupE st.vE 1 = sv ∧ lookupE st.vE 2 = .ptr 0 0 ∧ lookupE st.vE 5 = .int .i64 (1 + (j : Int)) ∧ ∀ i, i < j → ∀ a, a < s → dfs (edgeB vals f s) s i [a] = [])
    (Q := fun x st => st.low = 0 ∧ st.H = [.cells (con k fam t bd f s)] ∧ ((x = .exit 0 ∧ cycle (edgeB vals f s) s = none) ∨ (x = .ret ∧ ∃ p, cycle (edgeB vals f s) s = some p ∧ lookupE st.vE 4 = enc p)))
    (fun j st hj hI => ?_) (fun st hI => ?_) s 0 ⟨[], vE, [.cells (con k fam t bd f s)], 0, none⟩ (by omega) ⟨rfl, rfl, rfl, e1, e2, e5, fun i hi => absurd hi (by omega)⟩
  · obtain ⟨c0, c1, e0, l1, l2, l5, hn⟩ := hI
    obtain ⟨tE, vE, H, low, ro⟩ := st
    simp only at c0 c1 e0 l1 l2 l5
    subst c0; subst c1; subst e0
    have hcast : ((1 + j : Nat) : Int) = 1 + (j : Int) := by push_cast; rfl
    have hle : decide (1 + (j : Int) ≤ (s : Int)) = true := decide_eq_true (by omega)
    have hle' : 1 + (j : Int) ≤ (s : Int) := by omega
    have hw5 : IntKind.i64.wrap (1 + (j : Int) + 1) = 1 + ((j + 1 : Nat) : Int) := by rw [wrap_small] <;> push_cast <;> omega
    obtain ⟨x, st', r, q⟩ := cyc_inner T g htp (j := j) (by omega) (st := ⟨[], setE (setE vE 21 (.bool true)) 6 (.int .i64 0), [.cells (con k fam t bd f s)], 0, ro⟩) ⟨rfl, rfl, by simp [lookE_setE, l1], by simp [lookE_setE, l2], by rw [hcast]; simp [lookE_setE, l5], by simp [lookE_setE]⟩ rfl
    rw [F12B_for]
    unfold F12B
    generalize ACode.loop F12L0 = LL at r ⊢
    obtain ⟨tE', vE', H', low', ro'⟩ := st'
    rcases q with ⟨rfl, hD, hq⟩ | ⟨rfl, a, p, ha, hy, hp, h4, hlow, hH⟩
    · obtain ⟨d1, g0, g1, g2, g5, g6⟩ := hq
      simp only at d1 g0 g1 g2 g5 g6
      subst d1; subst g0
      rw [hcast] at g5
      refine ⟨.normal, ⟨[], setE vE' 5 (.int .i64 (1 + ((j + 1 : Nat) : Int))), [.cells (con k fam t bd f s)], 0, ro'⟩, ?_, ?_⟩
      · simp only [execL_seq, execL_region, execL_cond, execL_skip, execL_block, execOps, wantedA, S_mv, S_fieldAddr, S_load, S_bin, Opd.ev, lookupE, lookE_setE, St.put, l2, l5, loadA, readCells, con_g5, B_leq, B_add, boolOf, hle, List.getElem?_cons_zero]
        simp [execL_seq, execL_region, execL_cond, execL_skip, execL_block, execOps, wantedA, S_mv, S_fieldAddr, S_load, S_bin, Opd.ev, lookupE, lookE_setE, St.put, l2, l5, loadA, readCells, con_g5, B_leq, B_add, boolOf, hle', r, g5, hw5]
      · rw [if_pos rfl]
        refine ⟨rfl, rfl, rfl, by simp [lookE_setE, g1], by simp [lookE_setE, g2], by simp [lookE_setE], fun i hi a ha => ?_⟩
        rcases Nat.lt_or_ge i j with q | q
        · exact hn i q a ha
        · have : i = j := by omega
          rw [this]; exact hD a ha
    · simp only at h4 hlow hH
      subst hlow; subst hH
      refine ⟨.ret, ⟨tE', vE', [.cells (con k fam t bd f s)], 0, ro'⟩, ?_, ?_⟩
      · simp [execL_seq, execL_region, execL_cond, execL_skip, execL_block, execOps, wantedA, S_mv, S_fieldAddr, S_load, S_bin, Opd.ev, lookupE, lookE_setE, St.put, l2, l5, loadA, readCells, con_g5, B_leq, B_add, boolOf, hle', r]
      · rw [if_neg (by simp)]
        exact ⟨rfl, rfl, .inr ⟨rfl, p, ref_some hj ha (fun i hi a ha => hn i hi a ha) hy hp, h4⟩⟩
  · obtain ⟨c0, c1, e0, l1, l2, l5, hn⟩ := hI
    obtain ⟨tE, vE, H, low, ro⟩ := st
    simp only at c0 c1 e0 l1 l2 l5
    subst c0; subst c1; subst e0
    have hle' : ¬ (1 + (s : Int) ≤ (s : Int)) := by omega
    refine ⟨.exit 0, ⟨[], setE vE 21 (.bool false), [.cells (con k fam t bd f s)], 0, ro⟩, ?_, by simp, rfl, rfl, .inl ⟨rfl, ref_none hn⟩⟩
    rw [F12B_for]
    generalize F12B = BB
    simp [execL_seq, execL_region, execL_cond, execL_skip, execL_block, execL_exit, execOps, wantedA, S_mv, S_fieldAddr, S_load, S_bin, Opd.ev, lookupE, lookE_setE, St.put, l2, l5, loadA, readCells, con_g5, B_leq, B_add, boolOf, hle']

set_option maxHeartbeats 4000000 in
theorem refCycle_s (T : Tz tab) (h12 : tab 12 = some (.code F12)) {k fam bd f s : Int} {tv : V} {l : List (Int × Int)} (ht : VT tv l) (hv : VL sv vals) :
    callL tab (.fn 12 [] []) [.agg (con k fam tv bd f s), sv] [] = some (if graphB k f s vals.length then cycV vals f.toNat s.toNat else .nil0, [], 0) := by
  have hin := fun H => T.inside (k := k) (fam := fam) (b := bd) (f := f) (s := s) ht hv.lt H
  have hc : cellsOk (con k fam tv bd f s) = true := con_ok (slE_cellOk ht.sl)
  have htk : List.take 6 (con k fam tv bd f s) = con k fam tv bd f s := rfl
  have hpc : isPs (con k fam tv bd f s) = true := con_isPs (slE_isP ht.sl)
  rw [callL_fn, h12, F12_seq]
  have p1 : execL tab F12P1 ⟨[], [(0, .agg (con k fam tv bd f s)), (1, sv), (2, .ptr 0 0), (4, .nil0)], [.cells (con k fam tv bd f s)], 0, none⟩ = some (if graphB k f s vals.length then .normal else .ret, ⟨[], [(0, .agg (con k fam tv bd f s)), (1, sv), (2, .ptr 0 0), (4, .nil0), (17, .bool (!graphB k f s vals.length))], [.cells (con k fam tv bd f s)], 0, none⟩) := by
    by_cases hk : k = 1
    · subst hk
      have hi : insideB 1 f s l vals.length = graphB 1 f s vals.length := if_pos rfl
      rw [hi] at hin
      cases hg : graphB 1 f s vals.length with
      | true =>
        rw [hg] at hin
        simp [F12P1, callBody, zipE, execL_seq, execL_region, execL_cond, execL_skip, execL_ret, execL_exit, execL_block, execOps, wantedA, S_mv, S_pick, S_bin, S_un, S_call0, S_call1, S_extract, S_nilEq, S_load, S_alloc, S_box, S_fieldAddr, S_field, Opd.ev, lookupE, lookE_setE, St.put, binA, unA, boolOf, freezeVs, freezeV, freezeD, isP, isPs, resultsA, resultA, finish, old, olds, flat, movedH_same, Nat.min_self, loadA, readCells, cellsV_int, cO_int, cO_bool, cO_str, cO_list, cO_sref, cO_nil0, cO_emp, cellsOk, setE, con_len, con_g0, htk, hpc, S_len 1, hv.sl, hv.len, hin]
      | false =>
        rw [hg] at hin
        simp [F12P1, callBody, zipE, execL_seq, execL_region, execL_cond, execL_skip, execL_ret, execL_exit, execL_block, execOps, wantedA, S_mv, S_pick, S_bin, S_un, S_call0, S_call1, S_extract, S_nilEq, S_load, S_alloc, S_box, S_fieldAddr, S_field, Opd.ev, lookupE, lookE_setE, St.put, binA, unA, boolOf, freezeVs, freezeV, freezeD, isP, isPs, resultsA, resultA, finish, old, olds, flat, movedH_same, Nat.min_self, loadA, readCells, cellsV_int, cO_int, cO_bool, cO_str, cO_list, cO_sref, cO_nil0, cO_emp, cellsOk, setE, con_len, con_g0, htk, hpc, S_len 1, hv.sl, hv.len, hin]
    · have hg : graphB k f s vals.length = false := by simp [graphB, hk]
      have hb : (k != 1) = true := by simpa using hk
      rw [hg]
      simp [F12P1, callBody, zipE, execL_seq, execL_region, execL_cond, execL_skip, execL_ret, execL_exit, execL_block, execOps, wantedA, S_mv, S_pick, S_bin, S_un, S_call0, S_call1, S_extract, S_nilEq, S_load, S_alloc, S_box, S_fieldAddr, S_field, Opd.ev, lookupE, lookE_setE, St.put, binA, unA, boolOf, freezeVs, freezeV, freezeD, isP, isPs, resultsA, resultA, finish, old, olds, flat, movedH_same, Nat.min_self, loadA, readCells, cellsV_int, cO_int, cO_bool, cO_str, cO_list, cO_sref, cO_nil0, cO_emp, cellsOk, setE, con_len, con_g0, hb, hk]
  generalize F12P1 = R1 at *
  cases hg : graphB k f s vals.length with
  | false =>
    rw [hg] at p1
    simp [F12P0, callBody, zipE, execL_seq, execL_region, execL_cond, execL_skip, execL_ret, execL_exit, execL_block, execOps, wantedA, S_mv, S_pick, S_bin, S_un, S_call0, S_call1, S_extract, S_nilEq, S_load, S_alloc, S_box, S_fieldAddr, S_field, Opd.ev, lookupE, lookE_setE, St.put, binA, unA, boolOf, freezeVs, freezeV, freezeD, isP, isPs, resultsA, resultA, finish, old, olds, flat, movedH_same, Nat.min_self, loadA, readCells, cellsV_int, cO_int, cO_bool, cO_str, cO_list, cO_sref, cO_nil0, cO_emp, cellsOk, setE, cellsV, hc, p1]
  | true =>
    rw [hg] at p1
    unfold graphB at hg
    simp only [Bool.and_eq_true, decide_eq_true_eq] at hg
    obtain ⟨⟨⟨⟨hk, h1s⟩, hs6⟩, hf0⟩, hfn⟩ := hg
    obtain ⟨fN, rfl⟩ := Int.eq_ofNat_of_zero_le hf0
    obtain ⟨sN, rfl⟩ := Int.eq_ofNat_of_zero_le (show 0 ≤ s by omega)
    have hroom : fN + sN * sN ≤ vals.length := by
      have : ((sN * sN : Nat) : Int) = (sN : Int) * (sN : Int) := Int.natCast_mul _ _
      omega
    have g : Gr k fam tv bd fN sN sv vals := ⟨slE_cellOk ht.sl, hk, by omega, by omega, hv, hroom⟩
    obtain ⟨x, st', r, q1, q2, q3⟩ := cyc_outer T g (slE_isP ht.sl) (vE := [(0, .agg (con k fam tv bd fN sN)), (1, sv), (2, .ptr 0 0), (4, .nil0), (17, .bool false), (5, .int .i64 1)]) rfl rfl rfl rfl
    obtain ⟨tE, vE, H, low, ro⟩ := st'
    simp only at q1 q2 q3
    subst q1; subst q2
    rcases q3 with ⟨rfl, hn⟩ | ⟨rfl, p, hp, h4⟩
    · have : cycV vals fN sN = .nil0 := by unfold cycV; rw [hn]
      simp [F12P0, F12P2, F12P3, F12P4, callBody, zipE, execL_seq, execL_region, execL_cond, execL_skip, execL_ret, execL_exit, execL_block, execOps, wantedA, S_mv, S_pick, S_bin, S_un, S_call0, S_call1, S_extract, S_nilEq, S_load, S_alloc, S_box, S_fieldAddr, S_field, Opd.ev, lookupE, lookE_setE, St.put, binA, unA, boolOf, freezeVs, freezeV, freezeD, isP, isPs, resultsA, resultA, finish, old, olds, flat, movedH_same, Nat.min_self, loadA, readCells, cellsV_int, cO_int, cO_bool, cO_str, cO_list, cO_sref, cO_nil0, cO_emp, cellsOk, setE, cellsV, hc, p1, r, this]
    · have : cycV vals fN sN = enc p := by unfold cycV; rw [hp]
      simp [F12P0, F12P2, F12P3, F12P4, callBody, zipE, execL_seq, execL_region, execL_cond, execL_skip, execL_ret, execL_exit, execL_block, execOps, wantedA, S_mv, S_pick, S_bin, S_un, S_call0, S_call1, S_extract, S_nilEq, S_load, S_alloc, S_box, S_fieldAddr, S_field, Opd.ev, lookupE, lookE_setE, St.put, binA, unA, boolOf, freezeVs, freezeV, freezeD, isP, isPs, resultsA, resultA, finish, old, olds, flat, movedH_same, Nat.min_self, loadA, readCells, cellsV_int, cO_int, cO_bool, cO_str, cO_list, cO_sref, cO_nil0, cO_emp, cellsOk, setE, cellsV, hc, p1, r, this, h4, enc_isP]
      rfl

/-- The words that the reference's Holds needs. -/
structure Ty (tab : Nat → Option Fun) : Prop extends Tz tab where
  h12 : ∃ spec, tab 12 = some (.ext spec) ∧ ∀ (k fam bd f s : Int) (tv sv : V) (l : List (Int × Int)) (vals : List Int), VT tv l → VL sv vals → spec [.agg (con k fam tv bd f s), sv] = some (if graphB k f s vals.length then cycV vals f.toNat s.toNat else .nil0)
  h23 : ∃ spec, tab 23 = some (.ext spec) ∧ ∀ (b : Int) (tv sv : V) (l : List (Int × Int)) (vals : List Int), Row tv sv l vals → inB l vals.length = true → spec [.agg [tv, .int .i64 b], sv] = some (.bool (decide (sumT vals l ≤ b)))

/-- What Holds says of a constraint that is few. -/
def holdsB (k b f s : Int) (l : List (Int × Int)) (vals : List Int) : Bool := if k = 1 then graphB 1 f s vals.length && noCyc vals f.toNat s.toNat else inB l vals.length && decide (k = 0) && decide (sumT vals l ≤ b)

set_option maxHeartbeats 4000000 in
theorem refHolds_s (T : Ty tab) (h9 : tab 9 = some (.code F9)) {k fam b f s : Int} {tv : V} {l : List (Int × Int)} (h : Row tv sv l vals) :
    callL tab (.fn 9 [] []) [.agg (con k fam tv b f s), sv] [] = some (.bool (holdsB k b f s l vals), [], 0) := by
  have hin := fun H => T.inside (k := k) (fam := fam) (b := b) (f := f) (s := s) h.t h.v.lt H
  obtain ⟨sp, q1, q2⟩ := T.h12
  have hcy := fun H => callL_word (tab := tab) (args := [.agg (con k fam tv b f s), sv]) q1 (by simp [isPs, isP, con, slE_isP h.t.sl, slE_isP h.v.sl]) (q2 k fam b f s tv sv l vals h.t h.v) H
  obtain ⟨sp3, q3, q4⟩ := T.h23
  have hc : cellsOk (con k fam tv b f s) = true := con_ok (slE_cellOk h.t.sl)
  have htk : List.take 6 (con k fam tv b f s) = con k fam tv b f s := rfl
  have hpc : isPs (con k fam tv b f s) = true := con_isPs (slE_isP h.t.sl)
  have hsp := slE_isP h.v.sl
  have htp := slE_isP h.t.sl
  have hrow : List.take 2 (List.drop 2 (con k fam tv b f s)) = [tv, .int .i64 b] := rfl
  have hsl := h.v.sl
  have hln := h.v.len
  rw [callL_fn, h9, F9_seq]
  unfold holdsB
  by_cases hk : k = 1
  · subst hk
    have hi : insideB 1 f s l vals.length = graphB 1 f s vals.length := if_pos rfl
    rw [hi] at hin
    rw [if_pos rfl]
    generalize F9P3 = R3
    generalize F9P4 = R4
    cases hg : graphB 1 f s vals.length with
    | false =>
      rw [hg] at hin
      generalize F9P2 = R2
      simp [F9P0, F9P1, callBody, zipE, execL_seq, execL_region, execL_cond, execL_skip, execL_ret, execL_exit, execL_block, execOps, wantedA, S_mv, S_pick, S_bin, S_un, S_call0, S_call1, S_extract, S_nilEq, S_load, S_alloc, S_box, S_fieldAddr, S_field, Opd.ev, lookupE, lookE_setE, St.put, binA, unA, boolOf, freezeVs, freezeV, freezeD, isP, isPs, resultsA, resultA, finish, old, olds, flat, movedH_same, Nat.min_self, loadA, readCells, cellsV_int, cO_int, cO_bool, cO_str, cO_list, cO_sref, cO_nil0, cO_emp, cellsOk, setE, cellsV, hc, con_len, htk, hpc, S_len 1, hsl, hln, hin]
    | true =>
      rw [hg] at hin
      simp only [hg, if_true] at hcy
      rcases cycV_cases vals f.toNat s.toNat with ⟨e1, e2, -⟩ | ⟨p, e1, e2, -, hne⟩
      · rw [e1] at hcy
        rw [e2]
        have hz : ∀ (tE vE : Env) (H : Heap) (low : Nat), lookupE tE 15 = .nil0 → stepC (callL tab) (Opd.ev tE vE) H low (.len 1 (.tmp 15)) = some (.int .i64 0, H, low) := fun tE vE H low e => by
          rw [S_len 1 (by simp only [Opd.ev]; rw [e]; rfl)]; simp only [Opd.ev]; rw [e]; rfl
        simp [F9P0, F9P1, F9P2, callBody, zipE, execL_seq, execL_region, execL_cond, execL_skip, execL_ret, execL_exit, execL_block, execOps, wantedA, S_mv, S_pick, S_bin, S_un, S_call0, S_call1, S_extract, S_nilEq, S_load, S_alloc, S_box, S_fieldAddr, S_field, Opd.ev, lookupE, lookE_setE, St.put, binA, unA, boolOf, freezeVs, freezeV, freezeD, isP, isPs, resultsA, resultA, finish, old, olds, flat, movedH_same, Nat.min_self, loadA, readCells, cellsV_int, cO_int, cO_bool, cO_str, cO_list, cO_sref, cO_nil0, cO_emp, cellsOk, setE, cellsV, hc, con_len, con_g0, htk, hpc, S_len 1, hsl, hln, hin, hcy, hsp, hz]
      · rw [e1] at hcy
        rw [e2]
        have hz : ∀ (tE vE : Env) (H : Heap) (low : Nat), lookupE tE 15 = enc p → stepC (callL tab) (Opd.ev tE vE) H low (.len 1 (.tmp 15)) = some (.int .i64 p.length, H, low) := fun tE vE H low e => by
          rw [S_len 1 (by simp only [Opd.ev]; rw [e]; rfl)]; simp only [Opd.ev]; rw [e]; simp [enc, el, encL]
        simp [F9P0, F9P1, F9P2, callBody, zipE, execL_seq, execL_region, execL_cond, execL_skip, execL_ret, execL_exit, execL_block, execOps, wantedA, S_mv, S_pick, S_bin, S_un, S_call0, S_call1, S_extract, S_nilEq, S_load, S_alloc, S_box, S_fieldAddr, S_field, Opd.ev, lookupE, lookE_setE, St.put, binA, unA, boolOf, freezeVs, freezeV, freezeD, isP, isPs, resultsA, resultA, finish, old, olds, flat, movedH_same, Nat.min_self, loadA, readCells, cellsV_int, cO_int, cO_bool, cO_str, cO_list, cO_sref, cO_nil0, cO_emp, cellsOk, setE, cellsV, hc, con_len, con_g0, htk, hpc, S_len 1, hsl, hln, hin, hcy, hsp, hz, hne]
  · rw [if_neg hk]
    have hi : insideB k f s l vals.length = (inB l vals.length && decide (k = 0)) := if_neg hk
    rw [hi] at hin
    have hk1 : (k == 1) = false := beq_eq_false_iff_ne.2 hk
    cases hb : (inB l vals.length && decide (k = 0)) with
    | false =>
      rw [hb] at hin
      generalize F9P2 = R2
      generalize F9P3 = R3
      generalize F9P4 = R4
      simp [F9P0, F9P1, callBody, zipE, execL_seq, execL_region, execL_cond, execL_skip, execL_ret, execL_exit, execL_block, execOps, wantedA, S_mv, S_pick, S_bin, S_un, S_call0, S_call1, S_extract, S_nilEq, S_load, S_alloc, S_box, S_fieldAddr, S_field, Opd.ev, lookupE, lookE_setE, St.put, binA, unA, boolOf, freezeVs, freezeV, freezeD, isP, isPs, resultsA, resultA, finish, old, olds, flat, movedH_same, Nat.min_self, loadA, readCells, cellsV_int, cO_int, cO_bool, cO_str, cO_list, cO_sref, cO_nil0, cO_emp, cellsOk, setE, cellsV, hc, con_len, htk, hpc, S_len 1, hsl, hln, hin]
    | true =>
      rw [hb] at hin
      simp only [Bool.and_eq_true] at hb
      have hsm := fun H => callL_word (tab := tab) (args := [.agg [tv, .int .i64 b], sv]) q3 (by simp [isPs, isP, htp, hsp]) (q4 b tv sv l vals h hb.1) H
      simp [F9P0, F9P1, F9P2, F9P3, F9P4, callBody, zipE, execL_seq, execL_region, execL_cond, execL_skip, execL_ret, execL_exit, execL_block, execOps, wantedA, S_mv, S_pick, S_bin, S_un, S_call0, S_call1, S_extract, S_nilEq, S_load, S_alloc, S_box, S_fieldAddr, S_field, Opd.ev, lookupE, lookE_setE, St.put, binA, unA, boolOf, freezeVs, freezeV, freezeD, isP, isPs, resultsA, resultA, finish, old, olds, flat, movedH_same, Nat.min_self, loadA, readCells, cellsV_int, cO_int, cO_bool, cO_str, cO_list, cO_sref, cO_nil0, cO_emp, cellsOk, setE, cellsV, hc, con_len, con_g0, htk, hpc, S_len 1, hsl, hln, hin, hk1, hrow, hsp, htp, hsm]
end
end Go.Abs.T12
/- ConstraintHolds answers true at every input. -/
namespace Go.Abs.T12
open Go Go.Abs Go.Abs.Cyc
set_option linter.unusedSimpArgs false
def F3P0 : ACode := .region [⟨some (2, true), .box (.var 0), none⟩, ⟨some (4, true), .mv (.const (.bool false)), none⟩] none
def F3P1 : ACode := .seq (.region [⟨some (5, false), .call false (.func 5) [], none⟩, ⟨some (6, true), .un .not (.tmp 5), none⟩] none) (.cond (.var 6) (.seq (.region [⟨some (4, true), .mv (.const (.bool false)), none⟩] none) (.ret)) (.skip))
def F3P2 : ACode := .seq (.region [⟨some (7, false), .load (some 6) (.var 2), none⟩, ⟨some (8, false), .call false (.func 6) [(.tmp 7)], none⟩, ⟨some (9, false), .un .not (.tmp 8), none⟩, ⟨some (10, false), .mv (.tmp 9), none⟩, ⟨some (11, false), .mv (.var 1), some ((.tmp 10), false)⟩, ⟨some (12, false), .call false (.func 7) [(.tmp 11)], some ((.tmp 10), false)⟩, ⟨some (13, false), .un .not (.tmp 12), some ((.tmp 10), false)⟩, ⟨some (14, true), .pick (.tmp 10) (.const (.bool true)) (.tmp 13), none⟩] none) (.cond (.var 14) (.seq (.region [⟨some (4, true), .mv (.const (.bool true)), none⟩] none) (.ret)) (.skip))
def F3P3 : ACode := .region [⟨some (15, false), .load (some 6) (.var 2), none⟩, ⟨some (16, false), .mv (.var 1), none⟩, ⟨some (17, false), .call false (.func 8) [(.tmp 15), (.tmp 16)], none⟩, ⟨some (18, false), .load (some 6) (.var 2), none⟩, ⟨some (19, false), .mv (.var 1), none⟩, ⟨some (20, false), .call false (.func 9) [(.tmp 18), (.tmp 19)], none⟩, ⟨some (21, false), .nilEq 4 false (.tmp 17) (.tmp 20), none⟩, ⟨some (22, false), .mv (.tmp 21), none⟩, ⟨some (23, false), .load (some 6) (.var 2), some ((.tmp 22), true)⟩, ⟨some (24, false), .mv (.var 1), some ((.tmp 22), true)⟩, ⟨some (25, false), .call false (.func 11) [(.tmp 23), (.tmp 24)], some ((.tmp 22), true)⟩, ⟨some (26, false), .load (some 6) (.var 2), some ((.tmp 22), true)⟩, ⟨some (27, false), .mv (.var 1), some ((.tmp 22), true)⟩, ⟨some (28, false), .call false (.func 12) [(.tmp 26), (.tmp 27)], some ((.tmp 22), true)⟩, ⟨some (29, false), .call false (.func 10) [(.tmp 25), (.tmp 28)], some ((.tmp 22), true)⟩, ⟨some (30, false), .pick (.tmp 22) (.tmp 29) (.const (.bool false)), none⟩, ⟨some (4, true), .mv (.tmp 30), none⟩] (some [0, 0, 3, 0, 0, 31, 63, 127, 255, 255, 1023, 255, 255, 8191, 16383, 32767, 65535])
def F3P4 : ACode := .ret
theorem F3_seq : F3 = ⟨31, .seq F3P0 (.seq F3P1 (.seq F3P2 (.seq F3P3 F3P4))), [.tmp 4], false⟩ := rfl

/-- The words of the law. -/
structure Tv (tab : Nat → Option Fun) : Prop where
  h3 : tab 3 = some (.code F3)
  h5 : ∃ spec, tab 5 = some (.ext spec) ∧ spec [] = some (.bool true)
  h6 : ∃ spec, tab 6 = some (.ext spec) ∧ ∀ (k fam b f s : Int) (tv : V) (l : List (Int × Int)), VT tv l → spec [.agg (con k fam tv b f s)] = some (.bool (fewB l && small9 b))
  h7 : ∃ spec, tab 7 = some (.ext spec) ∧ ∀ (sv : V) (l : List Int), VL sv l → spec [sv] = some (.bool (fewV l))
  h8 : ∃ spec, tab 8 = some (.ext spec) ∧ ∀ (k fam b f s : Int) (tv sv : V) (l : List (Int × Int)) (vals : List Int), Row tv sv l vals → spec [.agg (con k fam tv b f s), sv] = some (.bool (holdsB k b f s l vals))
  h9 : ∃ spec, tab 9 = some (.ext spec) ∧ ∀ (k fam b f s : Int) (tv sv : V) (l : List (Int × Int)) (vals : List Int), Row tv sv l vals → spec [.agg (con k fam tv b f s), sv] = some (.bool (holdsB k b f s l vals))
  h10 : ∃ spec, tab 10 = some (.ext spec) ∧ ∀ (av bv : V) (l : List Int), VL av l → VL bv l → spec [av, bv] = some (.bool true)
  h11 : ∃ spec, tab 11 = some (.ext spec) ∧ ∀ (k fam b f s : Int) (t sv : V) (vals : List Int), cellOk t = true → isP t = true → VL sv vals → isP sv = true → spec [.agg (con k fam t b f s), sv] = some (if graphB k f s vals.length then cycV vals f.toNat s.toNat else .nil0)
  h12 : ∃ spec, tab 12 = some (.ext spec) ∧ ∀ (k fam bd f s : Int) (tv sv : V) (l : List (Int × Int)) (vals : List Int), VT tv l → VL sv vals → spec [.agg (con k fam tv bd f s), sv] = some (if graphB k f s vals.length then cycV vals f.toNat s.toNat else .nil0)

theorem cycV_VL (vals : List Int) (f s : Nat) (hs : s ≤ 6) : ∃ l, VL (cycV vals f s) l := by
  rcases cycV_cases vals f s with ⟨e, -, -⟩ | ⟨p, e, -, hc, -⟩
  · exact ⟨[], by rw [e]; exact ⟨rfl, rfl, by decide⟩⟩
  · have hl := (cycle_some hc).1.len
    exact ⟨_, by rw [e]; exact enc_VL (by omega)⟩

set_option maxHeartbeats 4000000 in
theorem constraintHolds_s {tab : Nat → Option Fun} (T : Tv tab) {k fam b f s : Int} {tv sv : V} {l : List (Int × Int)} {vals : List Int} (ht : VT tv l) (hv : VL sv vals) :
    callL tab (.fn 3 [] []) [.agg (con k fam tv b f s), sv] [] = some (.bool true, [], 0) := by
  have htp := slE_isP ht.sl
  have hsp := slE_isP hv.sl
  have hc : cellsOk (con k fam tv b f s) = true := con_ok (slE_cellOk ht.sl)
  have htk : List.take 6 (con k fam tv b f s) = con k fam tv b f s := rfl
  have hpc : isPs (con k fam tv b f s) = true := con_isPs htp
  obtain ⟨w5, a5, b5⟩ := T.h5
  obtain ⟨w6, a6, b6⟩ := T.h6
  obtain ⟨w7, a7, b7⟩ := T.h7
  obtain ⟨w8, a8, b8⟩ := T.h8
  obtain ⟨w9, a9, b9⟩ := T.h9
  obtain ⟨w10, a10, b10⟩ := T.h10
  obtain ⟨w11, a11, b11⟩ := T.h11
  obtain ⟨w12, a12, b12⟩ := T.h12
  have c5 := fun H => callL_word (tab := tab) (args := []) a5 rfl b5 H
  have c6 := fun H => callL_word (tab := tab) (args := [.agg (con k fam tv b f s)]) a6 (by simp [isPs, isP, con, htp]) (b6 k fam b f s tv l ht) H
  have c7 := fun H => callL_word (tab := tab) (args := [sv]) a7 (by simp [isPs, hsp]) (b7 sv vals hv) H
  have hps2 : isPs [.agg (con k fam tv b f s), sv] = true := by simp [isPs, isP, con, htp, hsp]
  have c11 := fun H => callL_word (tab := tab) (args := [.agg (con k fam tv b f s), sv]) a11 hps2 (b11 k fam b f s tv sv vals (slE_cellOk ht.sl) htp hv hsp) H
  have c12 := fun H => callL_word (tab := tab) (args := [.agg (con k fam tv b f s), sv]) a12 hps2 (b12 k fam b f s tv sv l vals ht hv) H
  obtain ⟨cl, hcl, hcp⟩ : ∃ cl, VL (if graphB k f s vals.length then cycV vals f.toNat s.toNat else .nil0) cl ∧ isP (if graphB k f s vals.length then cycV vals f.toNat s.toNat else .nil0) = true := by
    cases hg : graphB k f s vals.length with
    | false => exact ⟨[], ⟨rfl, rfl, by decide⟩, rfl⟩
    | true =>
      unfold graphB at hg
      simp only [Bool.and_eq_true, decide_eq_true_eq] at hg
      obtain ⟨l, hl⟩ := cycV_VL vals f.toNat s.toNat (by omega)
      exact ⟨l, hl, slE_isP hl.sl⟩
  generalize (if graphB k f s vals.length then cycV vals f.toNat s.toNat else .nil0) = cy at *
  have c10 := fun H => callL_word (tab := tab) (args := [cy, cy]) a10 (by simp [isPs, hcp]) (b10 cy cy cl hcl hcl) H
  rw [callL_fn, T.h3, F3_seq]
  cases hf : (fewB l && small9 b) with
  | false =>
    rw [hf] at c6
    generalize F3P3 = R3
    generalize F3P4 = R4
    simp [F3P0, F3P1, F3P2, callBody, zipE, execL_seq, execL_region, execL_cond, execL_skip, execL_ret, execL_exit, execL_block, execOps, wantedA, S_mv, S_pick, S_bin, S_un, S_call0, S_call1, S_extract, S_nilEq, S_load, S_alloc, S_box, S_fieldAddr, S_field, Opd.ev, lookupE, lookE_setE, St.put, binA, unA, boolOf, freezeVs, freezeV, freezeD, isP, isPs, resultsA, resultA, finish, old, olds, flat, movedH_same, Nat.min_self, loadA, readCells, cellsV_int, cO_int, cO_bool, cO_str, cO_list, cO_sref, cO_nil0, cO_emp, cellsOk, setE, cellsV, hc, con_len, htk, hpc, c5, c6]
  | true =>
    rw [hf] at c6
    cases hg : fewV vals with
    | false =>
      rw [hg] at c7
      generalize F3P3 = R3
      generalize F3P4 = R4
      simp [F3P0, F3P1, F3P2, callBody, zipE, execL_seq, execL_region, execL_cond, execL_skip, execL_ret, execL_exit, execL_block, execOps, wantedA, S_mv, S_pick, S_bin, S_un, S_call0, S_call1, S_extract, S_nilEq, S_load, S_alloc, S_box, S_fieldAddr, S_field, Opd.ev, lookupE, lookE_setE, St.put, binA, unA, boolOf, freezeVs, freezeV, freezeD, isP, isPs, resultsA, resultA, finish, old, olds, flat, movedH_same, Nat.min_self, loadA, readCells, cellsV_int, cO_int, cO_bool, cO_str, cO_list, cO_sref, cO_nil0, cO_emp, cellsOk, setE, cellsV, hc, con_len, htk, hpc, c5, c6, c7, hsp]
    | true =>
      rw [hg] at c7
      simp only [Bool.and_eq_true] at hf
      have hR : Row tv sv l vals := ⟨ht, hv, hf.1, hg⟩
      have c8 := fun H => callL_word (tab := tab) (args := [.agg (con k fam tv b f s), sv]) a8 hps2 (b8 k fam b f s tv sv l vals hR) H
      have c9 := fun H => callL_word (tab := tab) (args := [.agg (con k fam tv b f s), sv]) a9 hps2 (b9 k fam b f s tv sv l vals hR) H
      generalize holdsB k b f s l vals = hb at *
      have p3 : execL tab F3P3 ⟨[], [(0, .agg (con k fam tv b f s)), (1, sv), (2, .ptr 0 0), (4, .bool false), (6, .bool false), (14, .bool false)], [.cells (con k fam tv b f s)], 0, none⟩ = some (.normal, ⟨[], [(0, .agg (con k fam tv b f s)), (1, sv), (2, .ptr 0 0), (4, .bool true), (6, .bool false), (14, .bool false)], [.cells (con k fam tv b f s)], 0, none⟩) := by
        have hne : nilEqA 4 (.bool hb) (.bool hb) = some true := by cases hb <;> rfl
        have hmv : movedH [AObj.cells (con k fam tv b f s)] [AObj.cells (con k fam tv b f s)] 1 = false := rfl
        simp [F3P3, callBody, zipE, execL_seq, execL_region, execL_cond, execL_skip, execL_ret, execL_exit, execL_block, execOps, wantedA, S_mv, S_pick, S_bin, S_un, S_call0, S_call1, S_extract, S_nilEq, S_load, S_alloc, S_box, S_fieldAddr, S_field, Opd.ev, lookupE, lookE_setE, St.put, binA, unA, boolOf, freezeVs, freezeV, freezeD, isP, isPs, resultsA, resultA, finish, old, olds, flat, movedH_same, Nat.min_self, loadA, readCells, cellsV_int, cO_int, cO_bool, cO_str, cO_list, cO_sref, cO_nil0, cO_emp, cellsOk, setE, con_len, htk, hpc, hsp, c8, c9, c10, c11, c12, hcp, hne, hmv, inOrder, inOrder0]
      generalize F3P3 = R3 at *
      simp [F3P0, F3P1, F3P2, F3P4, callBody, zipE, execL_seq, execL_region, execL_cond, execL_skip, execL_ret, execL_exit, execL_block, execOps, wantedA, S_mv, S_pick, S_bin, S_un, S_call0, S_call1, S_extract, S_nilEq, S_load, S_alloc, S_box, S_fieldAddr, S_field, Opd.ev, lookupE, lookE_setE, St.put, binA, unA, boolOf, freezeVs, freezeV, freezeD, isP, isPs, resultsA, resultA, finish, old, olds, flat, movedH_same, Nat.min_self, loadA, readCells, cellsV_int, cO_int, cO_bool, cO_str, cO_list, cO_sref, cO_nil0, cO_emp, cellsOk, setE, cellsV, hc, con_len, htk, hpc, c5, c6, c7, hsp, p3]
end Go.Abs.T12
