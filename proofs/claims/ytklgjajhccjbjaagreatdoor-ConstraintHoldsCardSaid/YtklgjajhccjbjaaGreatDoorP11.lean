/- The constraints' functions that look at numbers alone: graph; slices' Index and Contains. -/
import Derived.Test.YtklgjajhccjbjaaGreatDoorP04
import Derived.Test.YtklgjajhccjbjaaGreatDoorP10
import Derived.Test.YtklgjajhccjbjaaGreatDoorP09
set_option linter.unusedVariables false
set_option linter.unusedSimpArgs false
namespace Go.Abs.T12
open Go Go.Abs

theorem cellsV_int (k : IntKind) (n : Int) : cellsV (.int k n) = [.int k n] := rfl
theorem cO_int (k : IntKind) (n : Int) : cellOk (.int k n) = true := rfl
theorem cO_bool (b : Bool) : cellOk (.bool b) = true := rfl
theorem cO_str (s : List UInt8) : cellOk (.str s) = true := rfl
theorem cO_list (e : Nat) (ds : List V) : cellOk (.list e ds) = true := rfl
theorem cO_sref (a b c d e : Nat) : cellOk (.sref a b c d e) = true := rfl
theorem cO_nil0 : cellOk .nil0 = true := rfl
theorem cO_emp : cellOk .emp = true := rfl

/-- A constraint as cells. -/
def con (k fam : Int) (t : V) (b f s : Int) : List V := [.int .i64 k, .int .i64 fam, t, .int .i64 b, .int .i64 f, .int .i64 s]

theorem slE_cellOk {es : Nat} {v : V} (h : slE es v = true) : cellOk v = true := by cases v <;> simp_all [slE, cellOk]

theorem execOps_app (call : CallT) : ∀ (l1 l2 : List AOper) (st : St) (wr : List Bool), execOps call (l1 ++ l2) st wr = match execOps call l1 st wr with | some (st', wr') => execOps call l2 st' wr'.reverse | none => none
  | [], l2, st, wr => by simp [execOps]
  | o :: r, l2, st, wr => by
    simp only [List.cons_append, execOps]
    cases wantedA st.tE st.vE o.guard with
    | none => rfl
    | some b =>
      cases b with
      | false => exact execOps_app call r l2 _ _
      | true =>
        simp only
        cases stepC call (Opd.ev st.tE st.vE) st.H st.H.length o.op with
        | none => rfl
        | some p => exact execOps_app call r l2 _ _

/-- A piece of a region that changes nothing but slots of its own, and leaves a value there. -/
def Piece (call : CallT) (R : List AOper) (tE vE : Env) (H : Heap) (low : Nat) (ro : Option Nat) (t : Nat) (v : V) : Prop :=
  ∀ wr, ∃ tE' wr', execOps call R ⟨tE, vE, H, low, ro⟩ wr = some (⟨tE', vE, H, low, ro⟩, wr') ∧ lookupE tE' t = v

theorem Piece.app {call : CallT} {R1 R2 : List AOper} {tE vE : Env} {H : Heap} {low : Nat} {ro : Option Nat} {t1 t2 : Nat} {v1 v2 : V} (h1 : Piece call R1 tE vE H low ro t1 v1)
    (h2 : ∀ tE', lookupE tE' t1 = v1 → Piece call R2 tE' vE H low ro t2 v2) : Piece call (R1 ++ R2) tE vE H low ro t2 v2 := fun wr => by
  obtain ⟨tE1, wr1, e1, l1⟩ := h1 wr
  obtain ⟨tE2, wr2, e2, l2⟩ := h2 tE1 l1 wr1.reverse
  exact ⟨tE2, wr2, by rw [execOps_app, e1]; exact e2, l2⟩

def graphB (k f s : Int) (n : Nat) : Bool := (((decide (k = 1) && decide (1 ≤ s)) && decide (s ≤ 6)) && decide (0 ≤ f)) && decide (f ≤ (n : Int) - s * s)

def F20R0 : List AOper := [⟨some (5, false), .fieldAddr 0 (.var 2), none⟩, ⟨some (6, false), .load none (.tmp 5), none⟩, ⟨some (7, false), .bin .eql (.tmp 6) (.const (.int .i64 1)), none⟩, ⟨some (8, false), .mv (.tmp 7), none⟩]
def F20R1 : List AOper := [⟨some (9, false), .fieldAddr 5 (.var 2), some ((.tmp 8), true)⟩, ⟨some (10, false), .load none (.tmp 9), some ((.tmp 8), true)⟩, ⟨some (11, false), .bin .geq (.tmp 10) (.const (.int .i64 1)), some ((.tmp 8), true)⟩, ⟨some (12, false), .pick (.tmp 8) (.tmp 11) (.const (.bool false)), none⟩, ⟨some (13, false), .mv (.tmp 12), none⟩]
def F20R2 : List AOper := [⟨some (14, false), .fieldAddr 5 (.var 2), some ((.tmp 13), true)⟩, ⟨some (15, false), .load none (.tmp 14), some ((.tmp 13), true)⟩, ⟨some (16, false), .bin .leq (.tmp 15) (.const (.int .i64 6)), some ((.tmp 13), true)⟩, ⟨some (17, false), .pick (.tmp 13) (.tmp 16) (.const (.bool false)), none⟩, ⟨some (18, false), .mv (.tmp 17), none⟩]
def F20R3 : List AOper := [⟨some (19, false), .fieldAddr 4 (.var 2), some ((.tmp 18), true)⟩, ⟨some (20, false), .load none (.tmp 19), some ((.tmp 18), true)⟩, ⟨some (21, false), .bin .geq (.tmp 20) (.const (.int .i64 0)), some ((.tmp 18), true)⟩, ⟨some (22, false), .pick (.tmp 18) (.tmp 21) (.const (.bool false)), none⟩, ⟨some (23, false), .mv (.tmp 22), none⟩]
def F20R4 : List AOper := [⟨some (24, false), .fieldAddr 4 (.var 2), some ((.tmp 23), true)⟩, ⟨some (25, false), .load none (.tmp 24), some ((.tmp 23), true)⟩, ⟨some (26, false), .mv (.var 1), some ((.tmp 23), true)⟩, ⟨some (27, false), .fieldAddr 5 (.var 2), some ((.tmp 23), true)⟩, ⟨some (28, false), .load none (.tmp 27), some ((.tmp 23), true)⟩, ⟨some (29, false), .fieldAddr 5 (.var 2), some ((.tmp 23), true)⟩, ⟨some (30, false), .load none (.tmp 29), some ((.tmp 23), true)⟩, ⟨some (31, false), .bin .mul (.tmp 28) (.tmp 30), some ((.tmp 23), true)⟩, ⟨some (32, false), .bin .sub (.tmp 26) (.tmp 31), some ((.tmp 23), true)⟩, ⟨some (33, false), .bin .leq (.tmp 25) (.tmp 32), some ((.tmp 23), true)⟩, ⟨some (34, false), .pick (.tmp 23) (.tmp 33) (.const (.bool false)), none⟩, ⟨some (4, true), .mv (.tmp 34), none⟩]
theorem F20_cut : F20 = ⟨35, .seq (.region [⟨some (2, true), .box (.var 0), none⟩, ⟨some (4, true), .mv (.const (.bool false)), none⟩] none) (.seq (.region (F20R0 ++ (F20R1 ++ (F20R2 ++ (F20R3 ++ F20R4)))) none) (.ret)), [.tmp 4], false⟩ := rfl

section
variable {call : CallT} {k fam b f s : Int} {t : V} {n : Nat} {v0 : V} {v4 : Bool} {tE : Env}
def gEnv (v0 : V) (n : Nat) (v4 : Bool) : Env := [(0, v0), (1, .int .i64 n), (2, .ptr 0 0), (4, .bool v4)]

theorem g1 : Piece call F20R0 [] (gEnv v0 n v4) [.cells (con k fam t b f s)] 0 none 8 (.bool (decide (k = 1))) := fun wr => by
  refine ⟨_, _, by simp [F20R0, callBody, zipE, execL_seq, execL_region, execL_cond, execL_skip, execL_ret, execL_exit, execL_block, execOps, wantedA, S_mv, S_pick, S_bin, S_un, S_call0, S_call1, S_extract, S_nilEq, S_load, S_alloc, S_box, S_fieldAddr, S_field, Opd.ev, lookupE, lookE_setE, St.put, binA, unA, boolOf, freezeVs, freezeV, freezeD, isP, isPs, resultsA, resultA, finish, old, olds, flat, movedH_same, Nat.min_self, loadA, readCells, cellsV_int, cO_int, cO_bool, cO_str, cO_list, cO_sref, cO_nil0, cO_emp, cellsOk, con, gEnv]; exact ⟨rfl, rfl⟩, by simp [lookupE]; rfl⟩
theorem g2 {x : Bool} (h : lookupE tE 8 = .bool x) : Piece call F20R1 tE (gEnv v0 n v4) [.cells (con k fam t b f s)] 0 none 13 (.bool (x && decide (1 ≤ s))) := fun wr => by
  cases x
  · exact ⟨_, _, by simp [F20R1, callBody, zipE, execL_seq, execL_region, execL_cond, execL_skip, execL_ret, execL_exit, execL_block, execOps, wantedA, S_mv, S_pick, S_bin, S_un, S_call0, S_call1, S_extract, S_nilEq, S_load, S_alloc, S_box, S_fieldAddr, S_field, Opd.ev, lookupE, lookE_setE, St.put, binA, unA, boolOf, freezeVs, freezeV, freezeD, isP, isPs, resultsA, resultA, finish, old, olds, flat, movedH_same, Nat.min_self, loadA, readCells, cellsV_int, cO_int, cO_bool, cO_str, cO_list, cO_sref, cO_nil0, cO_emp, cellsOk, con, gEnv, h]; exact ⟨rfl, rfl⟩, by simp [lookupE]⟩
  · exact ⟨_, _, by simp [F20R1, callBody, zipE, execL_seq, execL_region, execL_cond, execL_skip, execL_ret, execL_exit, execL_block, execOps, wantedA, S_mv, S_pick, S_bin, S_un, S_call0, S_call1, S_extract, S_nilEq, S_load, S_alloc, S_box, S_fieldAddr, S_field, Opd.ev, lookupE, lookE_setE, St.put, binA, unA, boolOf, freezeVs, freezeV, freezeD, isP, isPs, resultsA, resultA, finish, old, olds, flat, movedH_same, Nat.min_self, loadA, readCells, cellsV_int, cO_int, cO_bool, cO_str, cO_list, cO_sref, cO_nil0, cO_emp, cellsOk, con, gEnv, h]; exact ⟨rfl, rfl⟩, by simp [lookupE]⟩
theorem g3 {x : Bool} (h : lookupE tE 13 = .bool x) : Piece call F20R2 tE (gEnv v0 n v4) [.cells (con k fam t b f s)] 0 none 18 (.bool (x && decide (s ≤ 6))) := fun wr => by
  cases x
  · exact ⟨_, _, by simp [F20R2, callBody, zipE, execL_seq, execL_region, execL_cond, execL_skip, execL_ret, execL_exit, execL_block, execOps, wantedA, S_mv, S_pick, S_bin, S_un, S_call0, S_call1, S_extract, S_nilEq, S_load, S_alloc, S_box, S_fieldAddr, S_field, Opd.ev, lookupE, lookE_setE, St.put, binA, unA, boolOf, freezeVs, freezeV, freezeD, isP, isPs, resultsA, resultA, finish, old, olds, flat, movedH_same, Nat.min_self, loadA, readCells, cellsV_int, cO_int, cO_bool, cO_str, cO_list, cO_sref, cO_nil0, cO_emp, cellsOk, con, gEnv, h]; exact ⟨rfl, rfl⟩, by simp [lookupE]⟩
  · exact ⟨_, _, by simp [F20R2, callBody, zipE, execL_seq, execL_region, execL_cond, execL_skip, execL_ret, execL_exit, execL_block, execOps, wantedA, S_mv, S_pick, S_bin, S_un, S_call0, S_call1, S_extract, S_nilEq, S_load, S_alloc, S_box, S_fieldAddr, S_field, Opd.ev, lookupE, lookE_setE, St.put, binA, unA, boolOf, freezeVs, freezeV, freezeD, isP, isPs, resultsA, resultA, finish, old, olds, flat, movedH_same, Nat.min_self, loadA, readCells, cellsV_int, cO_int, cO_bool, cO_str, cO_list, cO_sref, cO_nil0, cO_emp, cellsOk, con, gEnv, h]; exact ⟨rfl, rfl⟩, by simp [lookupE]⟩
theorem g4 {x : Bool} (h : lookupE tE 18 = .bool x) : Piece call F20R3 tE (gEnv v0 n v4) [.cells (con k fam t b f s)] 0 none 23 (.bool (x && decide (0 ≤ f))) := fun wr => by
  cases x
  · exact ⟨_, _, by simp [F20R3, callBody, zipE, execL_seq, execL_region, execL_cond, execL_skip, execL_ret, execL_exit, execL_block, execOps, wantedA, S_mv, S_pick, S_bin, S_un, S_call0, S_call1, S_extract, S_nilEq, S_load, S_alloc, S_box, S_fieldAddr, S_field, Opd.ev, lookupE, lookE_setE, St.put, binA, unA, boolOf, freezeVs, freezeV, freezeD, isP, isPs, resultsA, resultA, finish, old, olds, flat, movedH_same, Nat.min_self, loadA, readCells, cellsV_int, cO_int, cO_bool, cO_str, cO_list, cO_sref, cO_nil0, cO_emp, cellsOk, con, gEnv, h]; exact ⟨rfl, rfl⟩, by simp [lookupE]⟩
  · exact ⟨_, _, by simp [F20R3, callBody, zipE, execL_seq, execL_region, execL_cond, execL_skip, execL_ret, execL_exit, execL_block, execOps, wantedA, S_mv, S_pick, S_bin, S_un, S_call0, S_call1, S_extract, S_nilEq, S_load, S_alloc, S_box, S_fieldAddr, S_field, Opd.ev, lookupE, lookE_setE, St.put, binA, unA, boolOf, freezeVs, freezeV, freezeD, isP, isPs, resultsA, resultA, finish, old, olds, flat, movedH_same, Nat.min_self, loadA, readCells, cellsV_int, cO_int, cO_bool, cO_str, cO_list, cO_sref, cO_nil0, cO_emp, cellsOk, con, gEnv, h]; exact ⟨rfl, rfl⟩, by simp [lookupE]⟩
theorem g5 {x : Bool} (h : lookupE tE 23 = .bool x) (hx : x = true → IntKind.i64.wrap (s * s) = s * s ∧ IntKind.i64.wrap ((n : Int) - s * s) = (n : Int) - s * s) (wr : List Bool) :
    ∃ tE' wr', execOps call F20R4 ⟨tE, gEnv v0 n v4, [.cells (con k fam t b f s)], 0, none⟩ wr = some (⟨tE', gEnv v0 n (x && decide (f ≤ (n : Int) - s * s)), [.cells (con k fam t b f s)], 0, none⟩, wr') := by
  cases x
  · exact ⟨_, _, by simp [F20R4, callBody, zipE, execL_seq, execL_region, execL_cond, execL_skip, execL_ret, execL_exit, execL_block, execOps, wantedA, S_mv, S_pick, S_bin, S_un, S_call0, S_call1, S_extract, S_nilEq, S_load, S_alloc, S_box, S_fieldAddr, S_field, Opd.ev, lookupE, lookE_setE, St.put, binA, unA, boolOf, freezeVs, freezeV, freezeD, isP, isPs, resultsA, resultA, finish, old, olds, flat, movedH_same, Nat.min_self, loadA, readCells, cellsV_int, cO_int, cO_bool, cO_str, cO_list, cO_sref, cO_nil0, cO_emp, cellsOk, setE, con, gEnv, h]; exact ⟨rfl, rfl⟩⟩
  · obtain ⟨h1, h2⟩ := hx rfl
    exact ⟨_, _, by simp [F20R4, callBody, zipE, execL_seq, execL_region, execL_cond, execL_skip, execL_ret, execL_exit, execL_block, execOps, wantedA, S_mv, S_pick, S_bin, S_un, S_call0, S_call1, S_extract, S_nilEq, S_load, S_alloc, S_box, S_fieldAddr, S_field, Opd.ev, lookupE, lookE_setE, St.put, binA, unA, boolOf, freezeVs, freezeV, freezeD, isP, isPs, resultsA, resultA, finish, old, olds, flat, movedH_same, Nat.min_self, loadA, readCells, cellsV_int, cO_int, cO_bool, cO_str, cO_list, cO_sref, cO_nil0, cO_emp, cellsOk, setE, con, gEnv, h, h1, h2]; exact ⟨rfl, rfl⟩⟩
end

theorem graph_s {tab : Nat → Option Fun} (h20 : tab 20 = some (.code F20)) {k fam b f s : Int} {t : V} (ht : cellOk t = true) {n : Nat} (hn : n < 4611686018427387904) :
    callL tab (.fn 20 [] []) [.agg (con k fam t b f s), .int .i64 n] [] = some (.bool (graphB k f s n), [], 0) := by
  rw [callL_fn, h20, F20_cut]
  have hp := g1 (call := callL tab) (k := k) (fam := fam) (b := b) (f := f) (s := s) (t := t) (n := n) (v0 := .agg (con k fam t b f s)) (v4 := false) |>.app (fun _ h => g2 h) |>.app (fun _ h => g3 h) |>.app (fun _ h => g4 h)
  obtain ⟨tE1, wr1, e1, l1⟩ := hp []
  obtain ⟨tE2, wr2, e2⟩ := g5 (call := callL tab) (k := k) (fam := fam) (b := b) (f := f) (s := s) (t := t) (n := n) (v0 := .agg (con k fam t b f s)) (v4 := false) l1 (fun hx => by
    simp only [Bool.and_eq_true, decide_eq_true_eq] at hx
    obtain ⟨⟨⟨h1, h2⟩, h3⟩, h4⟩ := hx
    have h5 : s = 1 ∨ s = 2 ∨ s = 3 ∨ s = 4 ∨ s = 5 ∨ s = 6 := by omega
    have hb : 1 ≤ s * s ∧ s * s ≤ 36 := by rcases h5 with rfl | rfl | rfl | rfl | rfl | rfl <;> decide
    refine ⟨?_, ?_⟩
    · rcases h5 with rfl | rfl | rfl | rfl | rfl | rfl <;> rfl
    · rw [wrap_small] <;> omega) wr1.reverse
  have key : execL tab (.region (F20R0 ++ (F20R1 ++ (F20R2 ++ (F20R3 ++ F20R4)))) none) ⟨[], gEnv (.agg (con k fam t b f s)) n false, [.cells (con k fam t b f s)], 0, none⟩ = some (.normal, ⟨[], gEnv (.agg (con k fam t b f s)) n (graphB k f s n), [.cells (con k fam t b f s)], 0, none⟩) := by
    rw [execL_region]
    have : execOps (callL tab) (F20R0 ++ (F20R1 ++ (F20R2 ++ (F20R3 ++ F20R4)))) ⟨[], gEnv (.agg (con k fam t b f s)) n false, [.cells (con k fam t b f s)], 0, none⟩ [] = some (⟨tE2, gEnv (.agg (con k fam t b f s)) n (graphB k f s n), [.cells (con k fam t b f s)], 0, none⟩, wr2) := by
      rw [← List.append_assoc, ← List.append_assoc, ← List.append_assoc, execOps_app, e1]
      exact e2
    simp only [this]
  have k2 := key
  unfold gEnv at k2
  generalize (ACode.region (F20R0 ++ (F20R1 ++ (F20R2 ++ (F20R3 ++ F20R4)))) none) = R at *
  have hc : cellsOk (con k fam t b f s) = true := by simp [con, cellsOk, cO_int, ht]
  simp [callBody, zipE, execL_seq, execL_region, execL_cond, execL_skip, execL_ret, execL_exit, execL_block, execOps, wantedA, S_mv, S_pick, S_bin, S_un, S_call0, S_call1, S_extract, S_nilEq, S_load, S_alloc, S_box, S_fieldAddr, S_field, Opd.ev, lookupE, lookE_setE, St.put, binA, unA, boolOf, freezeVs, freezeV, freezeD, isP, isPs, resultsA, resultA, finish, old, olds, flat, movedH_same, Nat.min_self, loadA, readCells, cellsV_int, cO_int, cO_bool, cO_str, cO_list, cO_sref, cO_nil0, cO_emp, cellsOk, setE, hc, cellsV, k2]
end Go.Abs.T12
/- slices.Index and slices.Contains at ints, slices.Clone, and the closure that looks at an edge. -/
namespace Go.Abs.T12
open Go Go.Abs

/-- A list of ints as the executor has it. -/
structure VL (v : V) (l : List Int) : Prop where
  sl : slE 1 v = true
  el : el v = l.map (.int .i64)
  lt : l.length < 4611686018427387904

theorem VL.len {v : V} {l : List Int} (h : VL v l) : (Abs.el v).length = l.length := by rw [h.el, List.length_map]
theorem VL.get {v : V} {l : List Int} (h : VL v l) {k : Nat} {x : Int} (hx : l[k]? = some x) : (Abs.el v)[k]? = some (.int .i64 x) := by rw [h.el, List.getElem?_map, hx]; rfl

theorem F40_cut : F40 = ⟨19, .seq (.region [⟨some (4, true), .mv (.const (.int .i64 0)), none⟩] none) (.seq (.seq (.region [⟨some (6, false), .mv (.var 0), none⟩, ⟨some (7, true), .len 1 (.tmp 6), none⟩, ⟨some (8, true), .mv (.const (.int .i64 0)), none⟩] none) (.block 0 (.loop (rangeBody 9 7 8 18 1 0 F40L0)))) (.seq (.region [⟨some (4, true), .mv (.const (.int .i64 (-1))), none⟩] none) (.ret))), [.tmp 4], false⟩ := rfl

set_option maxHeartbeats 1000000 in
theorem index_s {tab : Nat → Option Fun} (h40 : tab 40 = some (.code F40)) {sv : V} {l : List Int} (h : VL sv l) {v : Int} :
    ∃ n : Int, callL tab (.fn 40 [] []) [sv, .int .i64 v] [] = some (.int .i64 n, [], 0) ∧ (0 ≤ n ↔ v ∈ l) := by
  rw [callL_fn, h40]
  obtain ⟨x, st', hl, hq⟩ := range_loop (tab := tab) (b := 9) (n := 7) (i := 8) (t := 18) (blk := 1) (ex := 0) (body := F40L0) (N := l.length)
    (I := fun k st => st.H = [] ∧ st.low = 0 ∧ lookupE st.vE 0 = sv ∧ lookupE st.vE 1 = .int .i64 v ∧ lookupE st.vE 7 = .int .i64 l.length ∧ lookupE st.vE 8 = .int .i64 k ∧ v ∉ l.take k)
    (Q := fun x st => st.H = [] ∧ st.low = 0 ∧ ((x = .exit 0 ∧ v ∉ l) ∨ (x = .ret ∧ v ∈ l ∧ ∃ k : Nat, lookupE st.vE 4 = .int .i64 k)))
    h.lt (by decide) (by decide) (fun k st hI => ⟨hI.2.2.2.2.2.1, hI.2.2.2.2.1, by rw [hI.1, hI.2.1]; exact Nat.le_refl _⟩)
    (fun k st hk hI => by
      obtain ⟨e1, e2, l0, l1, l7, l8, hn⟩ := hI
      obtain ⟨tE, vE, H, low, ro⟩ := st
      simp only at e1 e2 l0 l1 l7 l8
      subst e1; subst e2
      have hx : l[k]? = some l[k] := by simp
      have hg := h.get hx
      by_cases hv : v = l[k]
      · have hb : (v == l[k]) = true := beq_iff_eq.2 hv
        refine ⟨.ret, _, by simp [F40L0, callBody, zipE, execL_seq, execL_region, execL_cond, execL_skip, execL_ret, execL_exit, execL_block, execOps, wantedA, S_mv, S_pick, S_bin, S_un, S_call0, S_call1, S_extract, S_nilEq, S_load, S_alloc, S_box, S_fieldAddr, S_field, Opd.ev, lookupE, lookE_setE, St.put, binA, unA, boolOf, freezeVs, freezeV, freezeD, isP, isPs, resultsA, resultA, finish, old, olds, flat, movedH_same, Nat.min_self, loadA, readCells, cellsV_int, cO_int, cO_bool, cO_str, cO_list, cO_sref, cO_nil0, cO_emp, cellsOk, S_index, h.sl, hg, l0, l1, l8, hb]; rfl, ?_⟩
        rw [if_neg (by simp)]
        exact ⟨rfl, rfl, .inr ⟨rfl, by rw [hv]; exact List.getElem_mem hk, k, by simp [lookE_setE, l8]⟩⟩
      · have hb : (v == l[k]) = false := beq_eq_false_iff_ne.2 hv
        refine ⟨.normal, _, by simp [F40L0, callBody, zipE, execL_seq, execL_region, execL_cond, execL_skip, execL_ret, execL_exit, execL_block, execOps, wantedA, S_mv, S_pick, S_bin, S_un, S_call0, S_call1, S_extract, S_nilEq, S_load, S_alloc, S_box, S_fieldAddr, S_field, Opd.ev, lookupE, lookE_setE, St.put, binA, unA, boolOf, freezeVs, freezeV, freezeD, isP, isPs, resultsA, resultA, finish, old, olds, flat, movedH_same, Nat.min_self, loadA, readCells, cellsV_int, cO_int, cO_bool, cO_str, cO_list, cO_sref, cO_nil0, cO_emp, cellsOk, S_index, h.sl, hg, l0, l1, l8, hb]; rfl, ?_⟩
        rw [if_pos (.inl rfl)]
        refine ⟨by simp [lookE_setE, l8], Nat.le_refl _, rfl, rfl, by simp [lookE_setE, l0], by simp [lookE_setE, l1], by simp [lookE_setE, l7], by simp [lookE_setE], ?_⟩
        show v ∉ l.take (k + 1)
        intro hm
        rw [List.take_add_one, hx] at hm
        rcases List.mem_append.1 hm with q | q
        · exact hn q
        · exact hv (by simpa using q))
    (fun st hI => by
      obtain ⟨e1, e2, -, -, -, -, hn⟩ := hI
      rw [List.take_length] at hn
      exact ⟨e1, e2, .inl ⟨rfl, hn⟩⟩)
    l.length 0 ⟨[], [(0, sv), (1, .int .i64 v), (4, .int .i64 0), (7, .int .i64 l.length), (8, .int .i64 0)], [], 0, none⟩ (by omega) ⟨rfl, rfl, rfl, rfl, rfl, rfl, by simp⟩
  obtain ⟨q1, q2, q3⟩ := hq
  rw [F40_cut]
  rcases q3 with ⟨rfl, hn⟩ | ⟨rfl, hm, k, hk⟩
  · refine ⟨-1, by simp [callBody, zipE, execL_seq, execL_region, execL_cond, execL_skip, execL_ret, execL_exit, execL_block, execOps, wantedA, S_mv, S_pick, S_bin, S_un, S_call0, S_call1, S_extract, S_nilEq, S_load, S_alloc, S_box, S_fieldAddr, S_field, Opd.ev, lookupE, lookE_setE, St.put, binA, unA, boolOf, freezeVs, freezeV, freezeD, isP, isPs, resultsA, resultA, finish, old, olds, flat, movedH_same, Nat.min_self, loadA, readCells, cellsV_int, cO_int, cO_bool, cO_str, cO_list, cO_sref, cO_nil0, cO_emp, cellsOk, setE, S_len 1, h.sl, h.len, hl, q1, q2], ?_⟩
    simp [hn]
  · refine ⟨k, by simp [callBody, zipE, execL_seq, execL_region, execL_cond, execL_skip, execL_ret, execL_exit, execL_block, execOps, wantedA, S_mv, S_pick, S_bin, S_un, S_call0, S_call1, S_extract, S_nilEq, S_load, S_alloc, S_box, S_fieldAddr, S_field, Opd.ev, lookupE, lookE_setE, St.put, binA, unA, boolOf, freezeVs, freezeV, freezeD, isP, isPs, resultsA, resultA, finish, old, olds, flat, movedH_same, Nat.min_self, loadA, readCells, cellsV_int, cO_int, cO_bool, cO_str, cO_list, cO_sref, cO_nil0, cO_emp, cellsOk, setE, S_len 1, h.sl, h.len, hl, q1, q2, hk], ?_⟩
    simp [hm]

theorem contains_s {tab : Nat → Option Fun} (h25 : tab 25 = some (.code F25)) (h40 : tab 40 = some (.code F40)) {sv : V} {l : List Int} (h : VL sv l) (hp : isP sv = true) {v : Int} :
    callL tab (.fn 25 [] []) [sv, .int .i64 v] [] = some (.bool (decide (v ∈ l)), [], 0) := by
  obtain ⟨n, hn, hv⟩ := index_s h40 h (v := v)
  rw [callL_fn, h25]
  simp [F25, callBody, zipE, execL_seq, execL_region, execL_cond, execL_skip, execL_ret, execL_exit, execL_block, execOps, wantedA, S_mv, S_pick, S_bin, S_un, S_call0, S_call1, S_extract, S_nilEq, S_load, S_alloc, S_box, S_fieldAddr, S_field, Opd.ev, lookupE, lookE_setE, St.put, binA, unA, boolOf, freezeVs, freezeV, freezeD, isP, isPs, resultsA, resultA, finish, old, olds, flat, movedH_same, Nat.min_self, loadA, readCells, cellsV_int, cO_int, cO_bool, cO_str, cO_list, cO_sref, cO_nil0, cO_emp, cellsOk, setE, hp, hn]
  exact hv
end Go.Abs.T12
/- Cycles of a graph, breadth first: paths that grow, the first one that closes. Plain lists. -/
namespace Go.Abs.Cyc

/-- All different, and below n: at most n. -/
theorem nodup_len : ∀ (n : Nat) (l : List Nat), l.Nodup → (∀ x ∈ l, x < n) → l.length ≤ n
  | 0, l, _, h => by
    cases l with
    | nil => simp
    | cons x r => exact absurd (h x (by simp)) (by omega)
  | n + 1, l, hn, h => by
    by_cases hm : n ∈ l
    · have h1 := nodup_len n (l.erase n) (hn.erase n) fun x hx => by
        have hx' := hn.mem_erase_iff.1 hx
        have := h x hx'.2
        have := hx'.1
        omega
      rw [List.length_erase_of_mem hm] at h1
      omega
    · have := nodup_len n l hn fun x hx => by
        have := h x hx
        have : x ≠ n := fun e => hm (e ▸ hx)
        omega
      omega

section
variable (edge : Nat → Nat → Bool) (size : Nat)

def closes (l : List Nat) : Bool := edge (l.getLastD 0) (l.headD 0)
def nextP (l : List Nat) : List (List Nat) :=
  ((List.range' (l.headD 0 + 1) (size - (l.headD 0 + 1))).filter fun v => edge (l.getLastD 0) v && !l.contains v).map fun v => l ++ [v]
/-- The first path that closes, of those that have been reached and of their longer ones. -/
def cyc : Nat → List (List Nat) → Option (List Nat)
  | 0, _ => none
  | k + 1, ps => match ps.find? (closes edge) with
    | some l => some l
    | none => if ps = [] then none else cyc k (ps.flatMap (nextP edge size))
def start : List (List Nat) := (List.range size).map fun a => [a]
def cycle : Option (List Nat) := cyc edge size (size + 1) (start size)

/-- A path: from its least element, along edges, no element twice. -/
structure Path (l : List Nat) : Prop where
  ne : l ≠ []
  nodup : l.Nodup
  lt : ∀ x ∈ l, x < size
  least : ∀ x ∈ l, l.headD 0 ≤ x
  along : ∀ i, i + 1 < l.length → edge (l.getD i 0) (l.getD (i + 1) 0) = true

variable {edge size}

theorem Path.len {l : List Nat} (h : Path edge size l) : l.length ≤ size := nodup_len size l h.nodup h.lt

theorem headD_append {l : List Nat} (h : l ≠ []) (v : Nat) : (l ++ [v]).headD 0 = l.headD 0 := by
  cases l with
  | nil => exact absurd rfl h
  | cons x r => rfl

theorem getLastD_getD {l : List Nat} (h : l ≠ []) : l.getLastD 0 = l.getD (l.length - 1) 0 := by
  cases l with
  | nil => exact absurd rfl h
  | cons x r =>
    rw [List.getLastD_eq_getLast?, List.getLast?_eq_getElem?, List.getD_eq_getElem?_getD]

theorem Path.next {l l' : List Nat} (h : Path edge size l) (hl : l' ∈ nextP edge size l) : Path edge size l' ∧ l'.length = l.length + 1 := by
  unfold nextP at hl
  obtain ⟨v, hv, rfl⟩ := List.mem_map.1 hl
  rw [List.mem_filter, List.mem_range'_1, Bool.and_eq_true, Bool.not_eq_true'] at hv
  obtain ⟨⟨h1, h2⟩, h3, h4⟩ := hv
  have hvm : v ∉ l := fun q => by
    rw [List.contains_iff_mem.2 q] at h4; cases h4
  refine ⟨⟨by simp, ?_, fun x hx => ?_, fun x hx => ?_, fun i hi => ?_⟩, by simp⟩
  · refine List.nodup_append.2 ⟨h.nodup, by simp, fun x hx y hy => ?_⟩
    simp only [List.mem_cons, List.not_mem_nil, or_false] at hy
    subst hy
    exact fun q => hvm (q ▸ hx)
  · rcases List.mem_append.1 hx with q | q
    · exact h.lt x q
    · simp only [List.mem_cons, List.not_mem_nil, or_false] at q
      subst q; omega
  · rw [headD_append h.ne]
    rcases List.mem_append.1 hx with q | q
    · exact h.least x q
    · simp only [List.mem_cons, List.not_mem_nil, or_false] at q
      subst q; omega
  · simp only [List.length_append, List.length_cons, List.length_nil] at hi
    have hpos : 0 < l.length := by
      cases l with
      | nil => exact absurd rfl h.ne
      | cons => simp
    rw [List.getD_eq_getElem?_getD, List.getD_eq_getElem?_getD, List.getElem?_append_left (by omega)]
    by_cases hc : i + 1 < l.length
    · rw [List.getElem?_append_left hc]
      have := h.along i hc
      rw [List.getD_eq_getElem?_getD, List.getD_eq_getElem?_getD] at this
      exact this
    · have e : i + 1 = l.length := by omega
      rw [e, List.getElem?_append_right (Nat.le_refl _), Nat.sub_self]
      rw [getLastD_getD h.ne, List.getD_eq_getElem?_getD] at h3
      have e2 : i = l.length - 1 := by omega
      rw [e2]
      exact h3

/-- What stands at a stage. -/
def Stage (edge : Nat → Nat → Bool) (size k : Nat) (ps : List (List Nat)) : Prop := ∀ l ∈ ps, Path edge size l ∧ l.length = k

theorem stage_start : Stage edge size 1 (start size) := fun l hl => by
  obtain ⟨a, ha, rfl⟩ := List.mem_map.1 hl
  have ha' := List.mem_range.1 ha
  refine ⟨⟨by simp, by simp, fun x hx => ?_, fun x hx => ?_, fun i hi => ?_⟩, rfl⟩
  · have : x = a := by simpa using hx
    omega
  · have : x = a := by simpa using hx
    subst this; exact Nat.le_refl _
  · simp at hi

theorem stage_next {k : Nat} {ps : List (List Nat)} (h : Stage edge size k ps) : Stage edge size (k + 1) (ps.flatMap (nextP edge size)) := fun l' hl => by
  obtain ⟨l, h1, h2⟩ := List.mem_flatMap.1 hl
  obtain ⟨p, e⟩ := h l h1
  obtain ⟨p', e'⟩ := p.next h2
  exact ⟨p', by omega⟩

theorem stage_end {k : Nat} {ps : List (List Nat)} (h : Stage edge size k ps) (hk : size < k) : ps = [] := by
  cases ps with
  | nil => rfl
  | cons l r =>
    obtain ⟨p, e⟩ := h l (by simp)
    have := p.len
    omega

/-- What is found: a path that closes. -/
theorem cyc_some : ∀ {k s : Nat} {ps : List (List Nat)} {l : List Nat}, Stage edge size s ps → cyc edge size k ps = some l → Path edge size l ∧ closes edge l = true
  | 0, _, _, _, _, h => by cases h
  | k + 1, s, ps, l, hs, h => by
    simp only [cyc] at h
    split at h
    · rename_i l' hf
      cases h
      exact ⟨(hs _ (List.mem_of_find?_eq_some hf)).1, by simpa using List.find?_some hf⟩
    · split at h
      · cases h
      · exact cyc_some (stage_next hs) h

theorem cycle_some {l : List Nat} (h : cycle edge size = some l) : Path edge size l ∧ closes edge l = true := cyc_some stage_start h

/-- Edges go up: nothing closes. -/
theorem cycle_up (hup : ∀ x y, x < size → y < size → edge x y = true → x < y) : cycle edge size = none := by
  cases h : cycle edge size with
  | none => rfl
  | some l =>
    obtain ⟨p, hc⟩ := cycle_some h
    exfalso
    have hne := p.ne
    unfold closes at hc
    have hlm : l.getLastD 0 ∈ l := by
      rw [List.getLastD_eq_getLast?]
      cases hl : l.getLast? with
      | none => rw [List.getLast?_eq_none_iff] at hl; exact absurd hl hne
      | some x => exact List.mem_of_getLast? hl
    have hhm : l.headD 0 ∈ l := by
      cases l with
      | nil => exact absurd rfl hne
      | cons => simp
    have h1 := hup _ _ (p.lt _ hlm) (p.lt _ hhm) hc
    have h2 := p.least _ hlm
    omega

/-- Edges go up but for one loop at x: found at once. -/
theorem cycle_loop {x : Nat} (hx : x < size) (hl : edge x x = true) (hup : ∀ a b, a < size → b < size → edge a b = true → a < b ∨ (a = x ∧ b = x)) : cycle edge size = some [x] := by
  unfold cycle
  simp only [cyc]
  have hf : (start size).find? (closes edge) = some [x] := by
    cases h : (start size).find? (closes edge) with
    | none =>
      rw [List.find?_eq_none] at h
      have := h [x] (List.mem_map.2 ⟨x, List.mem_range.2 hx, rfl⟩)
      exact absurd hl (by simpa [closes] using this)
    | some l =>
      obtain ⟨a, ha, rfl⟩ := List.mem_map.1 (List.mem_of_find?_eq_some h)
      have hc : edge a a = true := by simpa [closes] using List.find?_some h
      have ha' := List.mem_range.1 ha
      rcases hup a a ha' ha' hc with q | ⟨q, -⟩
      · omega
      · rw [q]
  rw [hf]

/-- Edges go up but for one from y back to x, and one goes from x to y: a cycle of two. -/
theorem cycle_back {x y : Nat} (hxy : x < y) (hy : y < size) (h1 : edge x y = true) (h2 : edge y x = true) (hup : ∀ a b, a < size → b < size → edge a b = true → a < b ∨ (a = y ∧ b = x)) : ∃ l, cycle edge size = some l ∧ l.length = 2 := by
  unfold cycle
  obtain ⟨k, rfl⟩ : ∃ k, size = k + 1 := ⟨size - 1, by omega⟩
  have hf : (start (k + 1)).find? (closes edge) = none := by
    rw [List.find?_eq_none]
    intro l hl hc
    obtain ⟨a, ha, rfl⟩ := List.mem_map.1 hl
    have hc : edge a a = true := by simpa [closes] using hc
    have ha' := List.mem_range.1 ha
    rcases hup a a ha' ha' hc with q | ⟨q, r⟩
    · omega
    · omega
  have hne : start (k + 1) ≠ [] := by simp [start]
  rw [show k + 1 + 1 = (k + 1) + 1 from rfl]
  simp only [cyc, hf, if_neg hne]
  have hm : [x, y] ∈ (start (k + 1)).flatMap (nextP edge (k + 1)) := by
    refine List.mem_flatMap.2 ⟨[x], List.mem_map.2 ⟨x, List.mem_range.2 (by omega), rfl⟩, ?_⟩
    unfold nextP
    refine List.mem_map.2 ⟨y, List.mem_filter.2 ⟨List.mem_range'_1.2 ⟨by simp only [List.headD_cons]; omega, ?_⟩, ?_⟩, rfl⟩
    · simp only [List.headD_cons]; omega
    · simp [h1]; omega
  cases h : List.find? (closes edge) ((start (k + 1)).flatMap (nextP edge (k + 1))) with
  | none =>
    rw [List.find?_eq_none] at h
    have := h [x, y] hm
    exact absurd h2 (by simpa [closes] using this)
  | some l =>
    exact ⟨l, rfl, ((stage_next stage_start) l (List.mem_of_find?_eq_some h)).2⟩
end
end Go.Abs.Cyc
/- slices.Clone, the edges of a graph, the paths that grow. -/
namespace Go.Abs.T12
open Go Go.Abs

def encL (l : List Nat) : List V := l.map fun (a : Nat) => .int .i64 (a : Int)
def enc (l : List Nat) : V := .list 1 (encL l)

theorem encL_isPs (l : List Nat) : isPs (encL l) = true := by
  induction l with
  | nil => rfl
  | cons a r ih => simp only [encL, List.map_cons, isPs, isP, Bool.true_and]; exact ih
theorem encL_cellsOk (l : List Nat) : cellsOk ((encL l).flatMap cellsV) = true := by
  induction l with
  | nil => rfl
  | cons a r ih =>
    simp only [encL, List.map_cons, List.flatMap_cons, cellsV, List.cons_append, List.nil_append, cellsOk, cellOk, Bool.true_and]
    exact ih
theorem encL_olds (n : Nat) (l : List Nat) : olds n (encL l) = true := by
  induction l with
  | nil => rfl
  | cons a r ih => simp only [encL, List.map_cons, olds, old, Bool.true_and]; exact ih
theorem encL_len (l : List Nat) : (encL l).length = l.length := by simp [encL]
theorem encL_app (l : List Nat) (v : Nat) : encL l ++ [.int .i64 (v : Int)] = encL (l ++ [v]) := by simp [encL]
theorem enc_VL {l : List Nat} (h : l.length < 4611686018427387904) : VL (enc l) (l.map fun (a : Nat) => (a : Int)) := ⟨rfl, by simp [enc, Abs.el, encL], by simpa using h⟩
theorem freezeVs_encL (H : Heap) (low : Nat) : ∀ (l : List Nat), freezeVs H low (encL l) = some (encL l, H, low)
  | [] => rfl
  | a :: r => by
    have := freezeVs_encL H low r
    simp only [encL, List.map_cons, freezeVs, freezeV, freezeD, isP, if_true] at this ⊢
    rw [this]

set_option maxHeartbeats 1000000 in
theorem clone_s {tab : Nat → Option Fun} (h26 : tab 26 = some (.code F26)) {l : List Nat} (hl : l ≠ []) (hb : l.length ≤ 1000) (H : Heap) :
    callL tab (.fn 26 [] []) [enc l] H = some (.sref H.length 1 0 l.length l.length, H ++ [.row 1 (encL l) false], H.length) := by
  rw [callL_fn, h26]
  have h1 : (encL l).isEmpty = false := by
    cases l with
    | nil => exact absurd rfl hl
    | cons => rfl
  have h2 : l.length * (8 + 1) ≤ 2 ^ 40 := by omega
  have h3 := encL_cellsOk l
  have hlit : ∀ (tE vE : Env), stepC (callL tab) (Opd.ev tE vE) H H.length (.lit 1 [.int .i64 0] 0 [] true) = some (.emp, H, H.length) := fun _ _ => rfl
  have happ : ∀ (tE vE : Env), lookupE tE 5 = .emp → lookupE tE 6 = enc l → stepC (callL tab) (Opd.ev tE vE) H H.length (.append 1 8 (.tmp 5) (.tmp 6)) = some (.sref H.length 1 0 l.length l.length, H ++ [.row 1 (encL l) false], H.length) := fun tE vE e5 e6 => by
    rw [S_append]
    simp only [step, Opd.ev, e5, e6, enc, elems, if_true, freezeVs_encL, h1, h3, Bool.false_eq_true, Bool.true_eq_false, if_false, encL_len]
    rw [if_pos h2]
  have hm : movedH H (H ++ [AObj.row 1 (encL l) false]) H.length = true := by simp [movedH]
  have hne : nilEqA 1 (enc l) .nil0 = some false := rfl
  simp [F26, callBody, zipE, execL_seq, execL_region, execL_cond, execL_skip, execL_ret, execL_exit, execL_block, execOps, wantedA, S_mv, S_pick, S_bin, S_un, S_call0, S_call1, S_extract, S_nilEq, S_load, S_alloc, S_box, S_fieldAddr, S_field, Opd.ev, lookupE, lookE_setE, St.put, binA, unA, boolOf, freezeVs, freezeV, freezeD, isP, isPs, resultsA, resultA, finish, old, olds, flat, movedH_same, Nat.min_self, loadA, readCells, cellsV_int, cO_int, cO_bool, cO_str, cO_list, cO_sref, cO_nil0, cO_emp, cellsOk, setE, hne, hlit, happ, encL_len, encL_olds, hm]

/-- The graph that a state holds. -/
structure Gr (k fam : Int) (t : V) (bd : Int) (f s : Nat) (sv : V) (vals : List Int) : Prop where
  t : cellOk t = true
  kind : k = 1
  s1 : 1 ≤ s
  s6 : s ≤ 6
  sv : VL sv vals
  room : f + s * s ≤ vals.length

def edgeB (vals : List Int) (f s a b : Nat) : Bool := decide (1 ≤ vals.getD (f + a * s + b) 0)

theorem idx_lt {s a b : Nat} (ha : a < s) (hb : b < s) : a * s + b < s * s := by
  have h1 : (a + 1) * s ≤ s * s := Nat.mul_le_mul_right s ha
  rw [Nat.succ_mul] at h1
  omega

set_option maxHeartbeats 1000000 in
theorem edge_s {tab : Nat → Option Fun} (h24 : tab 24 = some (.code F24)) {k fam bd : Int} {t sv : V} {f s : Nat} {vals : List Int} (g : Gr k fam t bd f s sv vals) {H : Heap} (h0 : H[0]? = some (.cells (con k fam t bd f s))) (h1 : H[1]? = some (.cells [sv]))
    {a b : Nat} (ha : a < s) (hb : b < s) : callL tab (.fn 24 [] [.ptr 1 0, .ptr 0 0]) [.int .i64 a, .int .i64 b] H = some (.bool (edgeB vals f s a b), H, H.length) := by
  rw [callL_fn, h24]
  have hi := idx_lt ha hb
  have hr := g.room
  have hl := g.sv.lt
  have has : a * s < 4611686018427387904 := by omega
  have hw1 : IntKind.i64.wrap ((a : Int) * (s : Int)) = (a : Int) * (s : Int) := by
    rw [wrap_small] <;> rw [← Int.natCast_mul] <;> omega
  have hw2 : IntKind.i64.wrap ((f : Int) + (a : Int) * (s : Int)) = (f : Int) + (a : Int) * (s : Int) := by
    rw [wrap_small] <;> rw [← Int.natCast_mul] <;> omega
  have hw3 : IntKind.i64.wrap ((f : Int) + (a : Int) * (s : Int) + (b : Int)) = (f : Int) + (a : Int) * (s : Int) + (b : Int) := by
    rw [wrap_small] <;> rw [← Int.natCast_mul] <;> omega
  have hN : natOf (.int .i64 ((f : Int) + (a : Int) * (s : Int) + (b : Int))) = some (f + a * s + b) := by
    have : ((f : Int) + (a : Int) * (s : Int) + (b : Int)) = ((f + a * s + b : Nat) : Int) := by push_cast; rfl
    rw [this, natOf_cast]
  have hlt : f + a * s + b < vals.length := by omega
  have hx : vals[f + a * s + b]? = some vals[f + a * s + b] := by simp
  have hg := g.sv.get hx
  have he : edgeB vals f s a b = decide (1 ≤ vals[f + a * s + b]) := by
    unfold edgeB
    rw [List.getD_eq_getElem?_getD, hx]; rfl
  simp [F24, callBody, zipE, execL_seq, execL_region, execL_cond, execL_skip, execL_ret, execL_exit, execL_block, execOps, wantedA, S_mv, S_pick, S_bin, S_un, S_call0, S_call1, S_extract, S_nilEq, S_load, S_alloc, S_box, S_fieldAddr, S_field, Opd.ev, lookupE, lookE_setE, St.put, binA, unA, boolOf, freezeVs, freezeV, freezeD, isP, isPs, resultsA, resultA, finish, old, olds, flat, movedH_same, Nat.min_self, loadA, readCells, cellsV_int, cO_int, cO_bool, cO_str, cO_list, cO_sref, cO_nil0, cO_emp, cellsOk, setE, con, h0, h1, hw1, hw2, hw3, hN, S_index, g.sv.sl, hg, he]

/-- A row of paths, of one's own. -/
inductive PS (B : Nat) (H : Heap) : V → List (List Nat) → Prop
  | none : PS B H .nil0 []
  | some (l : Nat) (ps : List (List Nat)) (hB : B ≤ l) (hne : ps ≠ []) (hl : H[l]? = some (.row 1 (ps.map enc) false)) : PS B H (.sref l 1 0 ps.length ps.length) ps
end Go.Abs.T12
/- A path that grows by one element, laid behind the other paths. -/
namespace Go.Abs.T12
open Go Go.Abs

def F11L1G0 : List AOper := [⟨some (72, false), .mv (.var 8), none⟩, ⟨some (73, false), .mv (.var 10), none⟩, ⟨some (74, false), .call true (.func 26) [(.tmp 73)], none⟩, ⟨some (75, false), .mv (.var 12), none⟩, ⟨some (76, false), .lit 1 [.int .i64 0] 1 [(0, (.tmp 75))] true, none⟩, ⟨some (77, false), .append 1 8 (.tmp 74) (.tmp 76), none⟩]
def F11L1G1 : List AOper := [⟨some (78, false), .lit 1 [.nil0] 1 [(0, (.tmp 77))] true, none⟩, ⟨some (79, false), .append 1 24 (.tmp 72) (.tmp 78), none⟩, ⟨some (8, true), .mv (.tmp 79), none⟩]
theorem F11L1_cut : F11L1 = .seq (.seq (.region [⟨some (56, false), .mv (.var 12), none⟩, ⟨some (57, false), .fieldAddr 5 (.var 2), none⟩, ⟨some (58, false), .load none (.tmp 57), none⟩, ⟨some (59, true), .bin .lss (.tmp 56) (.tmp 58), none⟩] none) (.cond (.var 59) (.skip) (.exit 6))) (.seq (.block 7 (.seq (.region [⟨some (62, false), .mv (.var 5), none⟩, ⟨some (63, false), .mv (.var 11), none⟩, ⟨some (64, false), .mv (.var 12), none⟩, ⟨some (65, false), .call false (.tmp 62) [(.tmp 63), (.tmp 64)], none⟩, ⟨some (66, false), .mv (.tmp 65), none⟩, ⟨some (67, false), .mv (.var 10), some ((.tmp 66), true)⟩, ⟨some (68, false), .mv (.var 12), some ((.tmp 66), true)⟩, ⟨some (69, false), .call false (.func 25) [(.tmp 67), (.tmp 68)], some ((.tmp 66), true)⟩, ⟨some (70, false), .un .not (.tmp 69), some ((.tmp 66), true)⟩, ⟨some (71, true), .pick (.tmp 66) (.tmp 70) (.const (.bool false)), none⟩] none) (.cond (.var 71) (.region (F11L1G0 ++ F11L1G1) none) (.skip)))) (.region [⟨some (60, false), .mv (.var 12), none⟩, ⟨some (61, false), .bin .add (.tmp 60) (.const (.int .i64 1)), none⟩, ⟨some (12, true), .mv (.tmp 61), none⟩] none)) := rfl

theorem set_last (H : Heap) (x y : AObj) : (H ++ [x]).set H.length y = H ++ [y] := by
  rw [List.set_append_right _ _ (Nat.le_refl _), Nat.sub_self]; rfl
theorem get_last (H : Heap) (x : AObj) : (H ++ [x])[H.length]? = some x := by simp

theorem PS.push {B : Nat} {H : Heap} {v : V} {ps : List (List Nat)} (h : PS B H v ps) (o : AObj) : PS B (H ++ [o]) v ps := by
  cases h with
  | none => exact .none
  | some l ps hB hne hl =>
    refine .some l ps hB hne ?_
    rw [List.getElem?_append_left]
    · exact hl
    · rcases Nat.lt_or_ge l H.length with q | q
      · exact q
      · rw [List.getElem?_eq_none q] at hl; cases hl

theorem append_s {call : CallT} {ev : Opd → V} {H : Heap} {low B : Nat} {a b : Opd} {ps : List (List Nat)} {p : List Nat} (ha : PS B H (ev a) ps) (hb : ev b = .list 1 [enc p]) (hB : B ≤ H.length) (hn : ps.length ≤ 1000000) (hlow : low ≤ H.length) :
    ∃ v' H' low', stepC call ev H low (.append 1 24 a b) = some (v', H', low') ∧ PS B H' v' (ps ++ [p]) ∧ H.length ≤ H'.length ∧ (∀ j, j < B → H'[j]? = H[j]?) ∧ low' ≤ H'.length := by
  rw [S_append]
  have hz : freezeVs H low [enc p] = some ([enc p], H, low) := rfl
  have hc : cellsOk ([enc p].flatMap cellsV) = true := rfl
  generalize hv : ev a = v at ha
  cases ha with
  | none =>
    refine ⟨.sref H.length 1 0 1 1, H ++ [.row 1 [enc p] false], low, ?_, .some H.length [p] hB (by simp) (by simp), by simp, fun j hj => List.getElem?_append_left (by omega), by simp; omega⟩
    simp only [step, hv, hb, elems, if_true, hz, hc, List.isEmpty_cons, Bool.false_eq_true, Bool.true_eq_false, if_false, List.length_cons, List.length_nil]
    rfl
  | some l ps hBl hne hl =>
    have hlt : l < H.length := by
      rcases Nat.lt_or_ge l H.length with q | q
      · exact q
      · rw [List.getElem?_eq_none q] at hl; cases hl
    have h2 : (ps.length + 1) * (24 + 1) ≤ 2 ^ 40 := by omega
    refine ⟨.sref l 1 0 (ps.length + 1) (ps.length + 1), H.set l (.row 1 (ps.map enc ++ [enc p]) false), min low l, ?_, ?_, by simp, fun j hj => List.getElem?_set_ne (by omega), by simp; omega⟩
    · simp only [step, hv, hb, elems, if_true, hz, hc, List.isEmpty_cons, Bool.false_eq_true, Bool.true_eq_false, if_false, hl, List.length_cons, List.length_nil, List.length_map, true_and]
      rw [if_pos h2]
    · have := PS.some (B := B) (H := H.set l (.row 1 (ps.map enc ++ [enc p]) false)) l (ps ++ [p]) hBl (by simp) (by rw [List.getElem?_set_self hlt]; simp)
      rw [List.length_append] at this
      exact this

set_option maxHeartbeats 1000000 in
theorem grow_s {tab : Nat → Option Fun} (h26 : tab 26 = some (.code F26)) {st : St} {B : Nat} {nx : List (List Nat)} {p : List Nat} {v : Nat} (e8 : PS B st.H (lookupE st.vE 8) nx) (e10 : lookupE st.vE 10 = enc p) (e12 : lookupE st.vE 12 = .int .i64 (v : Int))
    (hp : p ≠ []) (hpl : p.length ≤ 100) (hn : nx.length ≤ 1000000) (hB : B ≤ st.H.length) (hlow : st.low ≤ st.H.length) :
    ∃ v' H' low', execL tab (.region (F11L1G0 ++ F11L1G1) none) st = some (.normal, { st with tE := [], vE := setE st.vE 8 v', H := H', low := low' }) ∧ PS B H' v' (nx ++ [p ++ [v]]) ∧ st.H.length ≤ H'.length ∧ (∀ j, j < B → H'[j]? = st.H[j]?) ∧ low' ≤ H'.length := by
  obtain ⟨tE0, vE, H, low, ro⟩ := st
  simp only at e8 e10 e12 hB hlow
  have hcl := clone_s h26 hp (by omega : p.length ≤ 1000) H
  -- the clone grows
  have h77 : ∀ (tE : Env), lookupE tE 74 = .sref H.length 1 0 p.length p.length → lookupE tE 76 = .list 1 [.int .i64 (v : Int)] → stepC (callL tab) (Opd.ev tE vE) (H ++ [.row 1 (encL p) false]) (H ++ [AObj.row 1 (encL p) false]).length (.append 1 8 (.tmp 74) (.tmp 76)) =
      some (.sref H.length 1 0 (p.length + 1) (p.length + 1), H ++ [.row 1 (encL (p ++ [v])) false], H.length) := fun tE e1 e2 => by
    rw [S_append]
    have hz : freezeVs (H ++ [AObj.row 1 (encL p) false]) (H ++ [AObj.row 1 (encL p) false]).length [.int .i64 (v : Int)] = some ([.int .i64 (v : Int)], H ++ [.row 1 (encL p) false], (H ++ [AObj.row 1 (encL p) false]).length) := rfl
    have hc : cellsOk ([V.int .i64 (v : Int)].flatMap cellsV) = true := rfl
    have h2 : (p.length + 1) * (8 + 1) ≤ 2 ^ 40 := by omega
    simp only [step, Opd.ev, e1, e2, elems, if_true, hz, hc, List.isEmpty_cons, Bool.false_eq_true, Bool.true_eq_false, if_false, get_last, List.length_cons, List.length_nil, encL_len, true_and, set_last, encL_app]
    rw [if_pos h2]
    simp
  have hg0 : ∀ wr, ∃ wr', execOps (callL tab) F11L1G0 ⟨[], vE, H, low, ro⟩ wr = some (⟨[(77, .sref H.length 1 0 (p.length + 1) (p.length + 1)), (76, .list 1 [.int .i64 (v : Int)]), (75, .int .i64 (v : Int)), (74, .sref H.length 1 0 p.length p.length), (73, enc p), (72, lookupE vE 8)], vE, H ++ [.row 1 (encL (p ++ [v])) false], low, ro⟩, wr') := fun wr => by
    have hlit : ∀ (tE : Env), lookupE tE 75 = .int .i64 (v : Int) → stepC (callL tab) (Opd.ev tE vE) (H ++ [.row 1 (encL p) false]) (H ++ [AObj.row 1 (encL p) false]).length (.lit 1 [.int .i64 0] 1 [(0, .tmp 75)] true) = some (.list 1 [.int .i64 (v : Int)], H ++ [.row 1 (encL p) false], (H ++ [AObj.row 1 (encL p) false]).length) := fun tE e => by
      simp [S_lit, step, Opd.ev, e, freezeVs, freezeV, freezeD, isP, fillL, cellsV, cellsOk, cellOk, isPs]
    have hm : min (min (min (min (min (min low H.length) H.length) (min H.length H.length)) (H.length + 1)) (H.length + 1)) H.length = low := by omega
    exact ⟨_, by
     simp only [F11L1G0, execOps, wantedA, S_mv, S_call1, Opd.ev, e10, e12, St.put, lookupE, List.map_cons, List.map_nil, hcl, ↓reduceIte, Nat.reduceEqDiff]
     simp only [hlit, lookupE, St.put, Nat.reduceEqDiff, ↓reduceIte]
     simp only [h77, lookupE, St.put, Nat.reduceEqDiff, ↓reduceIte]
     simp only [List.length_append, List.length_cons, List.length_nil, Nat.zero_add]
     rw [hm]⟩
  -- it is frozen and laid behind the others
  have h78 : ∀ (tE : Env), lookupE tE 77 = .sref H.length 1 0 (p.length + 1) (p.length + 1) → stepC (callL tab) (Opd.ev tE vE) (H ++ [.row 1 (encL (p ++ [v])) false]) (H ++ [AObj.row 1 (encL (p ++ [v])) false]).length (.lit 1 [.nil0] 1 [(0, .tmp 77)] true) =
      some (.list 1 [enc (p ++ [v])], H ++ [.row 1 (encL (p ++ [v])) true], H.length) := fun tE e => by
    have hlen : (encL (p ++ [v])).length = p.length + 1 := by simp [encL_len]
    have hz : freezeVs (H ++ [AObj.row 1 (encL (p ++ [v])) false]) (H ++ [AObj.row 1 (encL (p ++ [v])) false]).length [.sref H.length 1 0 (p.length + 1) (p.length + 1)] = some ([enc (p ++ [v])], H ++ [.row 1 (encL (p ++ [v])) true], H.length) := by
      have h0 : 0 + (p.length + 1) ≤ (encL (p ++ [v])).length := by omega
      simp only [freezeVs, freezeV, freezeD, isP, Bool.false_eq_true, if_false, get_last, hlen, true_and]
      rw [if_pos (by omega), if_pos (encL_isPs _), set_last, List.drop_zero, List.take_of_length_le (by omega)]
      simp only [Bool.false_eq_true, if_false]
      simp [enc]
    rw [S_lit]
    simp only [step, List.map_cons, List.map_nil, Opd.ev, e, hz]
    rfl
  obtain ⟨wr0, k0⟩ := hg0 []
  have hps := e8.push (.row 1 (encL (p ++ [v])) true)
  obtain ⟨v', H', low', k1, k2, k3, k4, k5⟩ := append_s (call := callL tab) (ev := Opd.ev [(78, .list 1 [enc (p ++ [v])]), (77, .sref H.length 1 0 (p.length + 1) (p.length + 1)), (76, .list 1 [.int .i64 (v : Int)]), (75, .int .i64 (v : Int)), (74, .sref H.length 1 0 p.length p.length), (73, enc p), (72, lookupE vE 8)] vE) (a := .tmp 72) (b := .tmp 78)
    (low := (H ++ [AObj.row 1 (encL (p ++ [v])) true]).length) (p := p ++ [v]) hps rfl (by simp; omega) hn (Nat.le_refl _)
  refine ⟨v', H', min (min (min low H.length) low') H'.length, ?_, k2, ?_, fun j hj => ?_, ?_⟩
  · rw [execL_region, execOps_app, k0]
    simp only [F11L1G1, execOps, wantedA]
    rw [h78 _ rfl]
    simp only [St.put]
    rw [k1]
    simp only [S_mv, Opd.ev, lookupE, St.put, if_true]
  · have k3' : H.length + 1 ≤ H'.length := by simpa using k3
    show H.length ≤ H'.length
    omega
  · rw [k4 j hj, List.getElem?_append_left (by omega)]
  · omega
end Go.Abs.T12
/- All longer paths of one path. -/
namespace Go.Abs.T12
open Go Go.Abs Go.Abs.Cyc

/-- Where the search stands within one stage: 'pv' the stage's paths, 'nx' the next stage's so far. -/
structure CI (sv : V) (c : List V) (pv : V) (N k : Nat) (HB : Heap) (st : St) (nx : List (List Nat)) : Prop where
  keep : ∀ j, j < HB.length → st.H[j]? = HB[j]?
  len : HB.length ≤ st.H.length
  low : st.low ≤ st.H.length
  h0 : HB[0]? = some (.cells c)
  h1 : HB[1]? = some (.cells [sv])
  e2 : lookupE st.vE 2 = .ptr 0 0
  e3 : lookupE st.vE 3 = .ptr 1 0
  e5 : lookupE st.vE 5 = .fn 24 [] [.ptr 1 0, .ptr 0 0]
  e6 : lookupE st.vE 6 = pv
  e33 : lookupE st.vE 33 = pv
  e34 : lookupE st.vE 34 = .int .i64 N
  e35 : lookupE st.vE 35 = .int .i64 k
  nx : PS HB.length st.H (lookupE st.vE 8) nx

theorem CI.g0 {sv : V} {c : List V} {pv : V} {N k : Nat} {HB : Heap} {st : St} {nx : List (List Nat)} (h : CI sv c pv N k HB st nx) : st.H[0]? = some (.cells c) := by
  have : 0 < HB.length := by
    rcases Nat.eq_zero_or_pos HB.length with q | q
    · have := h.h0; rw [List.getElem?_eq_none (by omega)] at this; cases this
    · exact q
  rw [h.keep 0 this]; exact h.h0
theorem CI.g1 {sv : V} {c : List V} {pv : V} {N k : Nat} {HB : Heap} {st : St} {nx : List (List Nat)} (h : CI sv c pv N k HB st nx) : st.H[1]? = some (.cells [sv]) := by
  have : 1 < HB.length := by
    rcases Nat.lt_or_ge 1 HB.length with q | q
    · exact q
    · have := h.h1; rw [List.getElem?_eq_none (by omega)] at this; cases this
  rw [h.keep 1 this]; exact h.h1

/-- The loop over the elements that a path can go on with. -/
def ext (edge : Nat → Nat → Bool) (p : List Nat) (last : Nat) (vs : List Nat) : List (List Nat) := (vs.filter fun v => edge last v && !p.contains v).map fun v => p ++ [v]

section
variable {tab : Nat → Option Fun} {k fam bd : Int} {t sv : V} {f s : Nat} {vals : List Int}

structure Tb (tab : Nat → Option Fun) : Prop where
  h24 : tab 24 = some (.code F24)
  h26 : tab 26 = some (.code F26)
  h25 : ∃ spec, tab 25 = some (.ext spec) ∧ ∀ (sv : V) (l : List Int) (v : Int), VL sv l → isP sv = true → spec [sv, .int .i64 v] = some (.bool (decide (v ∈ l)))

theorem enc_isP (p : List Nat) : isP (enc p) = true := rfl

theorem mem_cast {v : Nat} {p : List Nat} : ((v : Int) ∈ p.map fun (a : Nat) => (a : Int)) ↔ v ∈ p := by
  rw [List.mem_map]
  constructor
  · rintro ⟨a, ha, e⟩
    have : a = v := by omega
    exact this ▸ ha
  · exact fun h => ⟨v, h, rfl⟩

theorem CI.slots {pv : V} {N kk : Nat} {HB : Heap} {c : List V} {tE tE' vE vE' : Env} {H : Heap} {low low' : Nat} {ro : Option Nat} {nx : List (List Nat)} (h : CI sv c pv N kk HB ⟨tE, vE, H, low, ro⟩ nx) (hl : low' ≤ H.length)
    (he : ∀ t, t = 2 ∨ t = 3 ∨ t = 5 ∨ t = 6 ∨ t = 33 ∨ t = 34 ∨ t = 35 ∨ t = 8 → lookupE vE' t = lookupE vE t) : CI sv c pv N kk HB ⟨tE', vE', H, low', ro⟩ nx :=
  ⟨h.keep, h.len, hl, h.h0, h.h1, (he 2 (by simp)).trans h.e2, (he 3 (by simp)).trans h.e3, (he 5 (by simp)).trans h.e5, (he 6 (by simp)).trans h.e6, (he 33 (by simp)).trans h.e33, (he 34 (by simp)).trans h.e34, (he 35 (by simp)).trans h.e35, by
    have := he 8 (by simp)
    show PS HB.length H (lookupE vE' 8) nx
    rw [this]; exact h.nx⟩

set_option maxHeartbeats 2000000 in
theorem grow_round (T : Tb tab) (g : Gr k fam t bd f s sv vals) {pv : V} {N kk : Nat} {HB : Heap} {p : List Nat} {last : Nat} (hp : p ≠ []) (hpl : p.length ≤ 6) (hlast : last < s) {v : Nat} (hv : v < s) {st : St} {nx : List (List Nat)}
    (h : CI sv (con k fam t bd f s) pv N kk HB st nx) (e10 : lookupE st.vE 10 = enc p) (e11 : lookupE st.vE 11 = .int .i64 (last : Int)) (e12 : lookupE st.vE 12 = .int .i64 (v : Int)) (hn : nx.length ≤ 1000000) :
    ∃ st', execL tab F11L1 st = some (.normal, st') ∧ CI sv (con k fam t bd f s) pv N kk HB st' (nx ++ ext (edgeB vals f s) p last [v]) ∧ lookupE st'.vE 10 = enc p ∧ lookupE st'.vE 11 = .int .i64 (last : Int) ∧ lookupE st'.vE 12 = .int .i64 ((v + 1 : Nat) : Int) := by
  obtain ⟨tE, vE, H, low, ro⟩ := st
  have g0 := h.g0
  have e2 := h.e2
  have e5 := h.e5
  simp only at e10 e11 e12 g0 e2 e5
  have hlow : min low H.length = low := Nat.min_eq_left h.low
  have hvs : ((v : Int) < (s : Int)) := by omega
  have hs6 := g.s6
  have hw : IntKind.i64.wrap ((v : Int) + 1) = (v : Int) + 1 := by rw [wrap_small] <;> omega
  have hedge := edge_s T.h24 g g0 h.g1 hlast hv
  obtain ⟨spec, hspec, hs25⟩ := T.h25
  have hcont : callL tab (.fn 25 [] []) [enc p, .int .i64 (v : Int)] H = some (.bool (decide (v ∈ p)), H, H.length) := by
    refine callL_word hspec rfl ?_ H
    rw [hs25 (enc p) _ v (enc_VL (by omega)) rfl]
    congr 2
    rw [decide_eq_decide]; exact mem_cast
  have hext : ext (edgeB vals f s) p last [v] = if edgeB vals f s last v && !p.contains v then [p ++ [v]] else [] := by
    unfold ext
    simp only [List.filter_cons, List.filter_nil]
    split <;> rfl
  have hpc : p.contains v = decide (v ∈ p) := by simp
  rw [F11L1_cut]
  cases c1 : edgeB vals f s last v with
  | false =>
    rw [c1] at hedge
    refine ⟨⟨[], setE (setE (setE vE 59 (.bool true)) 71 (.bool false)) 12 (.int .i64 ((v : Int) + 1)), H, low, ro⟩, ?_, ?_, by simp [lookE_setE, e10], by simp [lookE_setE, e11], by simp [lookE_setE]⟩
    · generalize ACode.region (F11L1G0 ++ F11L1G1) none = R
      simp [callBody, zipE, execL_seq, execL_region, execL_cond, execL_skip, execL_ret, execL_exit, execL_block, execOps, wantedA, S_mv, S_pick, S_bin, S_un, S_call0, S_call1, S_extract, S_nilEq, S_load, S_alloc, S_box, S_fieldAddr, S_field, Opd.ev, lookupE, lookE_setE, St.put, binA, unA, boolOf, freezeVs, freezeV, freezeD, isP, isPs, resultsA, resultA, finish, old, olds, flat, movedH_same, Nat.min_self, loadA, readCells, cellsV_int, cO_int, cO_bool, cO_str, cO_list, cO_sref, cO_nil0, cO_emp, cellsOk, e2, e5, e10, e11, e12, g0, con, hvs, hlow, hedge, hw]
    · rw [hext, c1]
      simp only [Bool.false_and, Bool.false_eq_true, if_false, List.append_nil]
      refine h.slots h.low fun t ht => ?_
      simp only [lookE_setE]
      rcases ht with rfl | rfl | rfl | rfl | rfl | rfl | rfl | rfl <;> rfl
  | true =>
    rw [c1] at hedge
    cases c2 : decide (v ∈ p) with
    | true =>
      rw [c2] at hcont
      refine ⟨⟨[], setE (setE (setE vE 59 (.bool true)) 71 (.bool false)) 12 (.int .i64 ((v : Int) + 1)), H, low, ro⟩, ?_, ?_, by simp [lookE_setE, e10], by simp [lookE_setE, e11], by simp [lookE_setE]⟩
      · generalize ACode.region (F11L1G0 ++ F11L1G1) none = R
        simp [callBody, zipE, execL_seq, execL_region, execL_cond, execL_skip, execL_ret, execL_exit, execL_block, execOps, wantedA, S_mv, S_pick, S_bin, S_un, S_call0, S_call1, S_extract, S_nilEq, S_load, S_alloc, S_box, S_fieldAddr, S_field, Opd.ev, lookupE, lookE_setE, St.put, binA, unA, boolOf, freezeVs, freezeV, freezeD, isP, isPs, resultsA, resultA, finish, old, olds, flat, movedH_same, Nat.min_self, loadA, readCells, cellsV_int, cO_int, cO_bool, cO_str, cO_list, cO_sref, cO_nil0, cO_emp, cellsOk, e2, e5, e10, e11, e12, g0, con, hvs, hlow, hedge, hw, hcont, enc_isP]
      · rw [hext, c1, hpc, c2]
        simp only [Bool.not_true, Bool.and_false, Bool.false_eq_true, if_false, List.append_nil]
        refine h.slots h.low fun t ht => ?_
        simp only [lookE_setE]
        rcases ht with rfl | rfl | rfl | rfl | rfl | rfl | rfl | rfl <;> rfl
    | false =>
      rw [c2] at hcont
      have h1 : CI sv (con k fam t bd f s) pv N kk HB ⟨[], setE (setE vE 59 (.bool true)) 71 (.bool true), H, low, ro⟩ nx := h.slots h.low fun t ht => by
        simp only [lookE_setE]
        rcases ht with rfl | rfl | rfl | rfl | rfl | rfl | rfl | rfl <;> rfl
      obtain ⟨v', H', low', k1, k2, k3, k4, k5⟩ := grow_s T.h26 (v := v) h1.nx (by simp [lookE_setE, e10] : lookupE (setE (setE vE 59 (.bool true)) 71 (.bool true)) 10 = enc p) (by simp [lookE_setE, e12]) hp (by omega) hn h1.len h1.low
      refine ⟨⟨[], setE (setE (setE (setE vE 59 (.bool true)) 71 (.bool true)) 8 v') 12 (.int .i64 ((v : Int) + 1)), H', low', ro⟩, ?_, ?_, by simp [lookE_setE, e10], by simp [lookE_setE, e11], by simp [lookE_setE]⟩
      · generalize ACode.region (F11L1G0 ++ F11L1G1) none = R at *
        have hl2 : min low' H'.length = low' := Nat.min_eq_left k5
        simp [callBody, zipE, execL_seq, execL_region, execL_cond, execL_skip, execL_ret, execL_exit, execL_block, execOps, wantedA, S_mv, S_pick, S_bin, S_un, S_call0, S_call1, S_extract, S_nilEq, S_load, S_alloc, S_box, S_fieldAddr, S_field, Opd.ev, lookupE, lookE_setE, St.put, binA, unA, boolOf, freezeVs, freezeV, freezeD, isP, isPs, resultsA, resultA, finish, old, olds, flat, movedH_same, Nat.min_self, loadA, readCells, cellsV_int, cO_int, cO_bool, cO_str, cO_list, cO_sref, cO_nil0, cO_emp, cellsOk, e2, e5, e10, e11, e12, g0, con, hvs, hlow, hedge, hw, hcont, enc_isP, k1, hl2]
      · rw [hext, c1, hpc, c2]
        simp only [Bool.not_false, Bool.and_true, if_true]
        refine ⟨fun j hj => (k4 j hj).trans (h.keep j hj), Nat.le_trans h.len k3, k5, h.h0, h.h1, by simp [lookE_setE, h.e2], by simp [lookE_setE, h.e3], by simp [lookE_setE, h.e5], by simp [lookE_setE, h.e6], by simp [lookE_setE, h.e33], by simp [lookE_setE, h.e34], by simp [lookE_setE, h.e35], by simpa [lookE_setE] using k2⟩

set_option maxHeartbeats 2000000 in
theorem grow_loop (T : Tb tab) (g : Gr k fam t bd f s sv vals) {pv : V} {N kk : Nat} {HB : Heap} {p : List Nat} {last : Nat} (hp : p ≠ []) (hpl : p.length ≤ 6) (hlast : last < s) :
    ∀ (d v : Nat), v + d = s → ∀ (st : St) (nx : List (List Nat)), CI sv (con k fam t bd f s) pv N kk HB st nx → lookupE st.vE 10 = enc p → lookupE st.vE 11 = .int .i64 (last : Int) → lookupE st.vE 12 = .int .i64 (v : Int) → nx.length + d ≤ 1000000 →
      ∃ st', execL tab (.loop F11L1) st = some (.exit 6, st') ∧ CI sv (con k fam t bd f s) pv N kk HB st' (nx ++ ext (edgeB vals f s) p last (List.range' v d))
  | 0, v, hv, st, nx, h, e10, e11, e12, hn => by
    obtain ⟨tE, vE, H, low, ro⟩ := st
    have g0 := h.g0
    have e2 := h.e2
    simp only at e10 e11 e12 g0 e2
    have hlow : min low H.length = low := Nat.min_eq_left h.low
    have hvs : ¬ ((v : Int) < (s : Int)) := by omega
    refine ⟨⟨[], setE vE 59 (.bool false), H, low, ro⟩, ?_, ?_⟩
    · rw [execL_loop]
      simp [F11L1, callBody, zipE, execL_seq, execL_region, execL_cond, execL_skip, execL_ret, execL_exit, execL_block, execOps, wantedA, S_mv, S_pick, S_bin, S_un, S_call0, S_call1, S_extract, S_nilEq, S_load, S_alloc, S_box, S_fieldAddr, S_field, Opd.ev, lookupE, lookE_setE, St.put, binA, unA, boolOf, freezeVs, freezeV, freezeD, isP, isPs, resultsA, resultA, finish, old, olds, flat, movedH_same, Nat.min_self, loadA, readCells, cellsV_int, cO_int, cO_bool, cO_str, cO_list, cO_sref, cO_nil0, cO_emp, cellsOk, e12, e2, g0, con, hvs, hlow]
    · have hh : ext (edgeB vals f s) p last (List.range' v 0) = [] := rfl
      rw [hh, List.append_nil]
      exact ⟨h.keep, h.len, h.low, h.h0, h.h1, by simp [lookE_setE, h.e2], by simp [lookE_setE, h.e3], by simp [lookE_setE, h.e5], by simp [lookE_setE, h.e6], by simp [lookE_setE, h.e33], by simp [lookE_setE, h.e34], by simp [lookE_setE, h.e35], by simpa [lookE_setE] using h.nx⟩
  | d + 1, v, hv, st, nx, h, e10, e11, e12, hn => by
    obtain ⟨st1, q1, q2, q3, q4, q5⟩ := grow_round T g hp hpl hlast (by omega : v < s) h e10 e11 e12 (by omega)
    have hle : (ext (edgeB vals f s) p last [v]).length ≤ 1 := by
      unfold ext
      rw [List.length_map]
      exact Nat.le_trans (List.length_filter_le _ _) (Nat.le_refl _)
    obtain ⟨st', r1, r2⟩ := grow_loop T g hp hpl hlast d (v + 1) (by omega) st1 _ q2 q3 q4 q5 (by rw [List.length_append]; omega)
    refine ⟨st', by rw [execL_loop, q1]; exact r1, ?_⟩
    have he : ext (edgeB vals f s) p last (List.range' v (d + 1)) = ext (edgeB vals f s) p last [v] ++ ext (edgeB vals f s) p last (List.range' (v + 1) d) := by
      unfold ext
      rw [List.range'_succ, ← List.map_append, ← List.filter_append]
      rfl
    rw [he, ← List.append_assoc]
    exact r2
end
end Go.Abs.T12
/- One stage of the search for a cycle, and all of them. -/
namespace Go.Abs.T12
open Go Go.Abs Go.Abs.Cyc

section
variable {tab : Nat → Option Fun} {k fam bd : Int} {t sv : V} {f s : Nat} {vals : List Int}

theorem cellsV_enc (p : List Nat) : cellsV (enc p) = [enc p] := rfl

theorem encL_get {p : List Nat} {i : Nat} {a : Nat} (h : p[i]? = some a) : (encL p)[i]? = some (.int .i64 (a : Int)) := by
  unfold encL
  rw [List.getElem?_map, h]; rfl

theorem CI.set35 {pv : V} {N kk : Nat} {HB : Heap} {c : List V} {tE vE : Env} {H : Heap} {low : Nat} {ro : Option Nat} {nx : List (List Nat)} (h : CI sv c pv N kk HB ⟨tE, vE, H, low, ro⟩ nx) (k' : Nat) : CI sv c pv N k' HB ⟨[], setE vE 35 (.int .i64 k'), H, low, ro⟩ nx :=
  ⟨h.keep, h.len, h.low, h.h0, h.h1, by simp [lookE_setE, h.e2], by simp [lookE_setE, h.e3], by simp [lookE_setE, h.e5], by simp [lookE_setE, h.e6], by simp [lookE_setE, h.e33], by simp [lookE_setE, h.e34], by simp [lookE_setE], by simpa [lookE_setE] using h.nx⟩

theorem head_last {p : List Nat} {edge : Nat → Nat → Bool} (h : Path edge s p) : ∃ a b, p[0]? = some a ∧ p.headD 0 = a ∧ p[p.length - 1]? = some b ∧ p.getLastD 0 = b ∧ a < s ∧ b < s ∧ 0 < p.length := by
  have hne := h.ne
  have hpos : 0 < p.length := by
    cases p with
    | nil => exact absurd rfl hne
    | cons => simp
  refine ⟨p[0], p[p.length - 1], by simp [hpos], ?_, by simp, ?_, h.lt _ (List.getElem_mem _), h.lt _ (List.getElem_mem _), hpos⟩
  · cases p with
    | nil => exact absurd rfl hne
    | cons a r => rfl
  · rw [getLastD_getD hne, List.getD_eq_getElem?_getD, List.getElem?_eq_getElem (by omega)]; rfl

set_option maxHeartbeats 2000000 in
/-- One path of a stage. -/
theorem path_round (T : Tb tab) (g : Gr k fam t bd f s sv vals) {ps : List (List Nat)} {l0 : Nat} {HB : Heap} {kk : Nat} {p : List Nat} {st : St} {nx : List (List Nat)} (hpk : ps[kk]? = some p) (hP : Path (edgeB vals f s) s p) (hl0 : HB[l0]? = some (.row 1 (ps.map enc) false)) (hkk : kk < ps.length)
    (h : CI sv (con k fam t bd f s) (.sref l0 1 0 ps.length ps.length) ps.length kk HB st nx) (hn : nx.length ≤ 900000) :
    ∃ x st', execL tab F11L2 st = some (x, st') ∧ st'.low ≤ st'.H.length ∧ ((x = .ret ∧ closes (edgeB vals f s) p = true ∧ lookupE st'.vE 4 = enc p) ∨
      (x = .normal ∧ closes (edgeB vals f s) p = false ∧ CI sv (con k fam t bd f s) (.sref l0 1 0 ps.length ps.length) ps.length kk HB st' (nx ++ nextP (edgeB vals f s) s p))) := by
  obtain ⟨tE, vE, H, low, ro⟩ := st
  obtain ⟨a, b, ha, hha, hb, hhb, has, hbs, hpos⟩ := head_last hP
  have hlen := hP.len
  have hs6 := g.s6
  have hlt0 : l0 < HB.length := by
    rcases Nat.lt_or_ge l0 HB.length with q | q
    · exact q
    · rw [List.getElem?_eq_none q] at hl0; cases hl0
  have hH0 : H[l0]? = some (.row 1 (ps.map enc) false) := (h.keep l0 hlt0).trans hl0
  have e33 := h.e33
  have e35 := h.e35
  have e5 := h.e5
  have e2 := h.e2
  simp only at e33 e35 e5 e2
  have hlow : min low H.length = low := Nat.min_eq_left h.low
  have hgp : (ps.map enc)[kk]? = some (enc p) := by rw [List.getElem?_map, hpk]; rfl
  have hmk : (ps.map enc).length = ps.length := List.length_map _
  have hidx : ∀ tE', stepC (callL tab) (Opd.ev tE' vE) H H.length (.indexAddr 1 (.var 33) (.var 35)) = some (.eptr l0 1 kk 0 ps.length, H, H.length) := fun tE' =>
    S_index_row (by simp only [Opd.ev]; exact e33) hH0 hmk (by simp only [Opd.ev]; rw [e35]; exact natOf_cast _ _) hkk (Nat.le_refl _)
  have hload : loadA H none (.eptr l0 1 kk 0 ps.length) = some (enc p) := by
    simp only [loadA, hH0, hmk, and_self, if_true, hgp, Option.bind_some]
    rfl
  have hnlast : natOf (.int .i64 ((p.length : Int) - 1)) = some (p.length - 1) := by
    have : ((p.length : Int) - 1) = ((p.length - 1 : Nat) : Int) := by omega
    rw [this, natOf_cast]
  have hwl : IntKind.i64.wrap ((p.length : Int) - 1) = (p.length : Int) - 1 := by rw [wrap_small] <;> omega
  have hge : el (enc p) = encL p := rfl
  have hse : slE 1 (enc p) = true := rfl
  have hedge := edge_s T.h24 g (h.g0) (h.g1) hbs has
  simp only at hedge
  have hcl : closes (edgeB vals f s) p = edgeB vals f s b a := by unfold closes; rw [hha, hhb]
  have hn0 : natOf (.int .i64 0) = some 0 := rfl
  have hga := encL_get ha
  have hgb := encL_get hb
  cases c1 : edgeB vals f s b a with
  | true =>
    rw [c1] at hedge
    refine ⟨.ret, ⟨[], setE (setE (setE (setE vE 10 (enc p)) 11 (.int .i64 (b : Int))) 50 (.bool true)) 4 (enc p), H, low, ro⟩, ?_, h.low, .inl ⟨rfl, by rw [hcl, c1], by simp [lookE_setE]⟩⟩
    simp [F11L2, callBody, zipE, execL_seq, execL_region, execL_cond, execL_skip, execL_ret, execL_exit, execL_block, execOps, wantedA, S_mv, S_pick, S_bin, S_un, S_call0, S_call1, S_extract, S_nilEq, S_load, S_alloc, S_box, S_fieldAddr, S_field, Opd.ev, lookupE, lookE_setE, St.put, binA, unA, boolOf, freezeVs, freezeV, freezeD, isP, isPs, resultsA, resultA, finish, old, olds, flat, movedH_same, Nat.min_self, loadA, readCells, cellsV_int, cO_int, cO_bool, cO_str, cO_list, cO_sref, cO_nil0, cO_emp, cellsOk, hidx, hH0, hpk, cellsV_enc, e5, hlow, S_len 1, S_index, hse, hge, encL_len, hwl, hnlast, hn0, hga, hgb, hedge]
  | false =>
    rw [c1] at hedge
    have h1 : CI sv (con k fam t bd f s) (.sref l0 1 0 ps.length ps.length) ps.length kk HB ⟨[], setE (setE (setE (setE vE 10 (enc p)) 11 (.int .i64 (b : Int))) 50 (.bool false)) 12 (.int .i64 ((a + 1 : Nat) : Int)), H, low, ro⟩ nx := h.slots h.low fun t ht => by
      simp only [lookE_setE]
      rcases ht with rfl | rfl | rfl | rfl | rfl | rfl | rfl | rfl <;> rfl
    obtain ⟨st', r1, r2⟩ := grow_loop T g hP.ne (by omega) hbs (s - (a + 1)) (a + 1) (by omega) _ nx h1 (by simp [lookE_setE]) (by simp [lookE_setE]) (by simp [lookE_setE]) (by omega)
    have hwa : IntKind.i64.wrap ((a : Int) + 1) = ((a + 1 : Nat) : Int) := by rw [wrap_small] <;> omega
    have hnext : nextP (edgeB vals f s) s p = ext (edgeB vals f s) p b (List.range' (a + 1) (s - (a + 1))) := by
      unfold nextP ext
      rw [hha, hhb]
    refine ⟨.normal, st', ?_, r2.low, .inr ⟨rfl, by rw [hcl, c1], by rw [hnext]; exact r2⟩⟩
    simp [F11L2, callBody, zipE, execL_seq, execL_region, execL_cond, execL_skip, execL_ret, execL_exit, execL_block, execOps, wantedA, S_mv, S_pick, S_bin, S_un, S_call0, S_call1, S_extract, S_nilEq, S_load, S_alloc, S_box, S_fieldAddr, S_field, Opd.ev, lookupE, lookE_setE, St.put, binA, unA, boolOf, freezeVs, freezeV, freezeD, isP, isPs, resultsA, resultA, finish, old, olds, flat, movedH_same, Nat.min_self, loadA, readCells, cellsV_int, cO_int, cO_bool, cO_str, cO_list, cO_sref, cO_nil0, cO_emp, cellsOk, hidx, hH0, hpk, cellsV_enc, e5, hlow, S_len 1, S_index, hse, hge, encL_len, hwl, hnlast, hn0, hga, hgb, hedge]
    rw [hwa, r1]
    rfl
end
end Go.Abs.T12
/- The search for a cycle, whole. -/
namespace Go.Abs.T12
open Go Go.Abs Go.Abs.Cyc

theorem F11L3_for : F11L3 = .seq (.seq (.region [⟨some (30, false), .mv (.var 6), none⟩, ⟨some (31, false), .len 1 (.tmp 30), none⟩, ⟨some (32, true), .bin .gtr (.tmp 31) (.const (.int .i64 0)), none⟩] none) (.cond (.var 32) (.skip) (.exit 2))) (.block 3 (.seq (.region [⟨some (8, true), .mv (.const (.nil0)), none⟩] none) (.seq (.seq (.region [⟨some (33, true), .mv (.var 6), none⟩, ⟨some (34, true), .len 1 (.var 33), none⟩, ⟨some (35, true), .mv (.const (.int .i64 0)), none⟩] none) (.block 4 (.loop (rangeBody 36 34 35 80 5 4 F11L2)))) (.region [⟨some (81, false), .mv (.var 8), none⟩, ⟨some (6, true), .mv (.tmp 81), none⟩] none)))) := rfl

section
variable {tab : Nat → Option Fun} {k fam bd : Int} {t sv : V} {f s : Nat} {vals : List Int}

theorem nextP_len {edge : Nat → Nat → Bool} {p : List Nat} : (nextP edge s p).length ≤ s := by
  unfold nextP
  rw [List.length_map]
  refine Nat.le_trans (List.length_filter_le _ _) ?_
  rw [List.length_range']; omega

theorem flat_len {edge : Nat → Nat → Bool} : ∀ (ps : List (List Nat)), (ps.flatMap (nextP edge s)).length ≤ ps.length * s
  | [] => by simp
  | p :: r => by
    have h1 := nextP_len (s := s) (edge := edge) (p := p)
    have h2 := flat_len (edge := edge) r
    rw [List.flatMap_cons, List.length_append, List.length_cons, Nat.succ_mul]
    omega

theorem find_take {α : Type} (q : α → Bool) : ∀ (l : List α) (i : Nat) (a : α), l[i]? = some a → (∀ x ∈ l.take i, q x = false) → q a = true → l.find? q = some a
  | [], i, a, h, _, _ => by simp at h
  | x :: r, 0, a, h, _, hq => by
    simp only [List.getElem?_cons_zero, Option.some.injEq] at h
    subst h
    simp [List.find?_cons, hq]
  | x :: r, i + 1, a, h, hn, hq => by
    have hx : q x = false := hn x (by simp)
    rw [List.find?_cons, hx]
    exact find_take q r i a (by simpa using h) (fun y hy => hn y (by simp [hy])) hq

set_option maxHeartbeats 2000000 in
/-- All paths of a stage. -/
theorem stage_loop (T : Tb tab) (g : Gr k fam t bd f s sv vals) {ps : List (List Nat)} {l0 : Nat} {HB : Heap} {st : St} (hP : ∀ p ∈ ps, Path (edgeB vals f s) s p) (hl0 : HB[l0]? = some (.row 1 (ps.map enc) false)) (hps : ps.length ≤ 100000)
    (h : CI sv (con k fam t bd f s) (.sref l0 1 0 ps.length ps.length) ps.length 0 HB st []) :
    ∃ x st', execL tab (.loop (rangeBody 36 34 35 80 5 4 F11L2)) st = some (x, st') ∧ st'.low ≤ st'.H.length ∧
      ((∃ p, x = .ret ∧ ps.find? (closes (edgeB vals f s)) = some p ∧ lookupE st'.vE 4 = enc p) ∨
       (x = .exit 4 ∧ ps.find? (closes (edgeB vals f s)) = none ∧ ∃ kk, CI sv (con k fam t bd f s) (.sref l0 1 0 ps.length ps.length) ps.length kk HB st' (ps.flatMap (nextP (edgeB vals f s) s)))) := by
  refine range_loop (tab := tab) (b := 36) (n := 34) (i := 35) (t := 80) (blk := 5) (ex := 4) (body := F11L2) (N := ps.length)
    (I := fun i st => CI sv (con k fam t bd f s) (.sref l0 1 0 ps.length ps.length) ps.length i HB st ((ps.take i).flatMap (nextP (edgeB vals f s) s)) ∧ ∀ p ∈ ps.take i, closes (edgeB vals f s) p = false)
    (by omega) (by decide) (by decide) (fun i st hI => ⟨hI.1.e35, hI.1.e34, hI.1.low⟩) (fun i st hi hI => ?_) (fun st hI => ?_) ps.length 0 st (by omega) ⟨h, by simp⟩
  · obtain ⟨h1, h2⟩ := hI
    obtain ⟨tE, vE, H, low, ro⟩ := st
    have hpk : ps[i]? = some ps[i] := by simp
    have h3 : CI sv (con k fam t bd f s) (.sref l0 1 0 ps.length ps.length) ps.length i HB ⟨[], setE vE 36 (.bool true), H, low, ro⟩ ((ps.take i).flatMap (nextP (edgeB vals f s) s)) := h1.slots h1.low fun t ht => by
      simp only [lookE_setE]
      rcases ht with rfl | rfl | rfl | rfl | rfl | rfl | rfl | rfl <;> rfl
    have hlen : ((ps.take i).flatMap (nextP (edgeB vals f s) s)).length ≤ 900000 := by
      have a1 := flat_len (s := s) (edge := edgeB vals f s) (ps.take i)
      have a2 : (ps.take i).length ≤ 100000 := by rw [List.length_take]; omega
      have a3 := g.s6
      have a4 : (ps.take i).length * s ≤ 100000 * 6 := Nat.mul_le_mul a2 a3
      omega
    obtain ⟨x, st', r1, r2, r3⟩ := path_round T g hpk (hP _ (List.getElem_mem hi)) hl0 hi h3 hlen
    refine ⟨x, st', r1, ?_⟩
    rcases r3 with ⟨rfl, hc, h4⟩ | ⟨rfl, hc, h4⟩
    · rw [if_neg (by simp)]
      exact ⟨r2, .inl ⟨ps[i], rfl, find_take _ ps i _ hpk h2 hc, h4⟩⟩
    · rw [if_pos (.inl rfl)]
      have htk : ps.take (i + 1) = ps.take i ++ [ps[i]] := by rw [List.take_add_one, hpk]; rfl
      obtain ⟨tE', vE', H', low', ro'⟩ := st'
      refine ⟨h4.e35, r2, ?_, fun p hp => ?_⟩
      · rw [htk, List.flatMap_append, List.flatMap_cons, List.flatMap_nil, List.append_nil]
        exact h4.set35 (i + 1)
      · rw [htk] at hp
        rcases List.mem_append.1 hp with q | q
        · exact h2 p q
        · have : p = ps[i] := by simpa using q
          rw [this]; exact hc
  · obtain ⟨h1, h2⟩ := hI
    rw [List.take_length] at h1 h2
    obtain ⟨tE, vE, H, low, ro⟩ := st
    refine ⟨h1.low, .inr ⟨rfl, ?_, ps.length, h1.slots h1.low fun t ht => ?_⟩⟩
    · rw [List.find?_eq_none]
      intro p hp hc
      rw [h2 p hp] at hc; cases hc
    · simp only [lookE_setE]
      rcases ht with rfl | rfl | rfl | rfl | rfl | rfl | rfl | rfl <;> rfl

/-- Where the search stands between stages. -/
structure SI (sv : V) (c : List V) (st : St) (ps : List (List Nat)) : Prop where
  low : st.low ≤ st.H.length
  h0 : st.H[0]? = some (.cells c)
  h1 : st.H[1]? = some (.cells [sv])
  e2 : lookupE st.vE 2 = .ptr 0 0
  e3 : lookupE st.vE 3 = .ptr 1 0
  e5 : lookupE st.vE 5 = .fn 24 [] [.ptr 1 0, .ptr 0 0]
  ps : PS 2 st.H (lookupE st.vE 6) ps

theorem pow6 : ∀ (m : Nat), m ≤ 7 → 6 ^ m ≤ 300000 := by decide

set_option maxHeartbeats 2000000 in
theorem search_loop (T : Tb tab) (g : Gr k fam t bd f s sv vals) : ∀ (n m : Nat), m + n = s + 2 → 1 ≤ m → ∀ (st : St) (ps : List (List Nat)), SI sv (con k fam t bd f s) st ps → Stage (edgeB vals f s) s m ps → ps.length ≤ 6 ^ m →
    ∃ x st', execL tab (.loop F11L3) st = some (x, st') ∧ st'.low ≤ st'.H.length ∧ match cyc (edgeB vals f s) s n ps with
      | some p => x = .ret ∧ lookupE st'.vE 4 = enc p
      | none => x = .exit 2
  | n, m, hm, hm1, st, ps, h, hS, hl => by
    obtain ⟨tE, vE, H, low, ro⟩ := st
    have hps := h.ps
    have hlow : min low H.length = low := Nat.min_eq_left h.low
    have hs6 := g.s6
    simp only at hps
    by_cases hne : ps = []
    · subst hne
      have h6 : lookupE vE 6 = .nil0 := by
        generalize lookupE vE 6 = v at hps
        cases hps with
        | none => rfl
        | some l ps hB hn hl => exact absurd rfl hn
      refine ⟨.exit 2, ⟨[], setE vE 32 (.bool false), H, low, ro⟩, ?_, h.low, ?_⟩
      · rw [execL_loop, F11L3_for]
        have hz : stepC (callL tab) (Opd.ev [(30, V.nil0)] vE) H H.length (.len 1 (.tmp 30)) = some (.int .i64 0, H, H.length) := rfl
        simp [callBody, zipE, execL_seq, execL_region, execL_cond, execL_skip, execL_ret, execL_exit, execL_block, execOps, wantedA, S_mv, S_pick, S_bin, S_un, S_call0, S_call1, S_extract, S_nilEq, S_load, S_alloc, S_box, S_fieldAddr, S_field, Opd.ev, lookupE, lookE_setE, St.put, binA, unA, boolOf, freezeVs, freezeV, freezeD, isP, isPs, resultsA, resultA, finish, old, olds, flat, movedH_same, Nat.min_self, loadA, readCells, cellsV_int, cO_int, cO_bool, cO_str, cO_list, cO_sref, cO_nil0, cO_emp, cellsOk, h6, hz, hlow]
      · cases n with
        | zero => rfl
        | succ n => simp [cyc]
    · obtain ⟨l0, h6, hl0, hB⟩ : ∃ l0, lookupE vE 6 = .sref l0 1 0 ps.length ps.length ∧ H[l0]? = some (.row 1 (ps.map enc) false) ∧ 2 ≤ l0 := by
        generalize lookupE vE 6 = v at hps
        cases hps with
        | none => exact absurd rfl hne
        | some l ps hB hn hl => exact ⟨l, rfl, hl, hB⟩
      obtain ⟨n, rfl⟩ : ∃ n', n = n' + 1 := by
        cases n with
        | zero => exact absurd (stage_end hS (by omega)) hne
        | succ n => exact ⟨n, rfl⟩
      have hmk : (ps.map enc).length = ps.length := List.length_map _
      have hpos : 0 < ps.length := by
        cases ps with
        | nil => exact absurd rfl hne
        | cons => simp
      have hms : m ≤ s := by
        rcases Nat.lt_or_ge s m with q | q
        · exact absurd (stage_end hS q) hne
        · exact q
      have hp6 : ps.length ≤ 100000 := by
        have : 6 ^ m ≤ 6 ^ 6 := Nat.pow_le_pow_right (by decide) (by omega)
        have h66 : (6 : Nat) ^ 6 = 46656 := by decide
        omega
      have hlen30 : ∀ tE', lookupE tE' 30 = .sref l0 1 0 ps.length ps.length → stepC (callL tab) (Opd.ev tE' vE) H H.length (.len 1 (.tmp 30)) = some (.int .i64 ps.length, H, H.length) := fun tE' e => S_len_row (by simp only [Opd.ev]; exact e) hl0 hmk
      have hlen33 : ∀ tE' (vE' : Env), lookupE vE' 33 = .sref l0 1 0 ps.length ps.length → stepC (callL tab) (Opd.ev tE' vE') H H.length (.len 1 (.var 33)) = some (.int .i64 ps.length, H, H.length) := fun tE' vE' e => S_len_row (by simp only [Opd.ev]; exact e) hl0 hmk
      have hgt : decide (0 < ps.length) = true := decide_eq_true hpos
      -- the stage begins
      have hci : CI sv (con k fam t bd f s) (.sref l0 1 0 ps.length ps.length) ps.length 0 H ⟨[], setE (setE (setE (setE (setE vE 32 (.bool true)) 8 .nil0) 33 (.sref l0 1 0 ps.length ps.length)) 34 (.int .i64 ps.length)) 35 (.int .i64 0), H, low, ro⟩ [] :=
        ⟨fun _ _ => rfl, Nat.le_refl _, h.low, h.h0, h.h1, by simp [lookE_setE, h.e2], by simp [lookE_setE, h.e3], by simp [lookE_setE, h.e5], by simp [lookE_setE, h6], by simp [lookE_setE], by simp [lookE_setE], by simp [lookE_setE], by
          have : lookupE (setE (setE (setE (setE (setE vE 32 (.bool true)) 8 .nil0) 33 (.sref l0 1 0 ps.length ps.length)) 34 (.int .i64 ps.length)) 35 (.int .i64 0)) 8 = .nil0 := by simp [lookE_setE]
          rw [this]; exact .none⟩
      obtain ⟨x, st', r1, r2, r3⟩ := stage_loop T g (fun p hp => (hS p hp).1) hl0 hp6 hci
      rcases r3 with ⟨p, rfl, hf, h4⟩ | ⟨rfl, hf, kk, hc⟩
      · have hL : execL tab F11L3 ⟨tE, vE, H, low, ro⟩ = some (.ret, st') := by
          rw [F11L3_for]
          generalize ACode.loop (rangeBody 36 34 35 80 5 4 F11L2) = R at r1 ⊢
          simp [callBody, zipE, execL_seq, execL_region, execL_cond, execL_skip, execL_ret, execL_exit, execL_block, execOps, wantedA, S_mv, S_pick, S_bin, S_un, S_call0, S_call1, S_extract, S_nilEq, S_load, S_alloc, S_box, S_fieldAddr, S_field, Opd.ev, lookupE, lookE_setE, St.put, binA, unA, boolOf, freezeVs, freezeV, freezeD, isP, isPs, resultsA, resultA, finish, old, olds, flat, movedH_same, Nat.min_self, loadA, readCells, cellsV_int, cO_int, cO_bool, cO_str, cO_list, cO_sref, cO_nil0, cO_emp, cellsOk, h6, hlen30, hlen33, hlow, hgt, r1, hne]
        refine ⟨.ret, st', by rw [execL_loop, hL], r2, ?_⟩
        simp only [cyc, hf]
        exact ⟨trivial, h4⟩
      · have hL : execL tab F11L3 ⟨tE, vE, H, low, ro⟩ = some (.normal, { st' with tE := [], vE := setE st'.vE 6 (lookupE st'.vE 8), low := min st'.low st'.H.length }) := by
          rw [F11L3_for]
          generalize ACode.loop (rangeBody 36 34 35 80 5 4 F11L2) = R at r1 ⊢
          simp [callBody, zipE, execL_seq, execL_region, execL_cond, execL_skip, execL_ret, execL_exit, execL_block, execOps, wantedA, S_mv, S_pick, S_bin, S_un, S_call0, S_call1, S_extract, S_nilEq, S_load, S_alloc, S_box, S_fieldAddr, S_field, Opd.ev, lookupE, lookE_setE, St.put, binA, unA, boolOf, freezeVs, freezeV, freezeD, isP, isPs, resultsA, resultA, finish, old, olds, flat, movedH_same, Nat.min_self, loadA, readCells, cellsV_int, cO_int, cO_bool, cO_str, cO_list, cO_sref, cO_nil0, cO_emp, cellsOk, h6, hlen30, hlen33, hlow, hgt, r1, hne]
        have hSn : SI sv (con k fam t bd f s) { st' with tE := [], vE := setE st'.vE 6 (lookupE st'.vE 8), low := min st'.low st'.H.length } (ps.flatMap (nextP (edgeB vals f s) s)) := by
          refine ⟨Nat.min_le_right _ _, hc.g0, hc.g1, by simp [lookE_setE, hc.e2], by simp [lookE_setE, hc.e3], by simp [lookE_setE, hc.e5], ?_⟩
          have e : lookupE (setE st'.vE 6 (lookupE st'.vE 8)) 6 = lookupE st'.vE 8 := by simp [lookE_setE]
          simp only [e]
          have hnx := hc.nx
          have h2 : 2 ≤ H.length := by
            rcases Nat.lt_or_ge l0 H.length with q | q
            · omega
            · rw [List.getElem?_eq_none q] at hl0; cases hl0
          generalize lookupE st'.vE 8 = v at hnx ⊢
          generalize ps.flatMap (nextP (edgeB vals f s) s) = qs at hnx ⊢
          cases hnx with
          | none => exact .none
          | some l qs hB' hn hl' => exact .some l _ (by omega) hn hl'
        obtain ⟨x, st'', q1, q2, q3⟩ := search_loop T g n (m + 1) (by omega) (by omega) _ _ hSn (stage_next hS) (by
          have a1 := flat_len (s := s) (edge := edgeB vals f s) ps
          have a2 : ps.length * s ≤ 6 ^ m * 6 := Nat.mul_le_mul hl hs6
          rw [Nat.pow_succ]
          omega)
        refine ⟨x, st'', by rw [execL_loop, hL]; exact q1, q2, ?_⟩
        simp only [cyc, hf, if_neg hne]
        exact q3
end
end Go.Abs.T12
/- constraint.Cycle. -/
namespace Go.Abs.T12
open Go Go.Abs Go.Abs.Cyc

theorem F11_for : F11 = ⟨82, .seq (.region [⟨some (2, true), .box (.var 0), none⟩, ⟨some (3, true), .box (.var 1), none⟩, ⟨some (4, true), .mv (.const (.nil0)), none⟩] none) (.seq (.seq (.region [⟨some (13, false), .load (some 6) (.var 2), none⟩, ⟨some (14, false), .load none (.var 3), none⟩, ⟨some (15, false), .len 1 (.tmp 14), none⟩, ⟨some (16, false), .call false (.func 20) [(.tmp 13), (.tmp 15)], none⟩, ⟨some (17, true), .un .not (.tmp 16), none⟩] none) (.cond (.var 17) (.seq (.region [⟨some (4, true), .mv (.const (.nil0)), none⟩] none) (.ret)) (.skip))) (.seq (.region [⟨some (18, false), .mkFn 24 [] [(.var 3), (.var 2)], none⟩, ⟨some (5, true), .mv (.tmp 18), none⟩] none) (.seq (.region [⟨some (6, true), .mv (.const (.nil0)), none⟩] none) (.seq (.seq (.region [⟨some (19, false), .fieldAddr 5 (.var 2), none⟩, ⟨some (20, true), .load none (.tmp 19), none⟩, ⟨some (21, true), .mv (.const (.int .i64 0)), none⟩] none) (.block 0 (.loop (rangeBody 22 20 21 29 1 0 F11L0)))) (.seq (.block 2 (.loop F11L3)) (.seq (.region [⟨some (4, true), .mv (.const (.nil0)), none⟩] none) (.ret))))))), [.tmp 4], false⟩ := rfl

def cycV (vals : List Int) (f s : Nat) : V := match cycle (edgeB vals f s) s with
  | some p => enc p
  | none => .nil0

section
variable {tab : Nat → Option Fun} {k fam bd : Int} {t sv : V} {vals : List Int}

structure Tc (tab : Nat → Option Fun) : Prop extends Tb tab where
  h11 : tab 11 = some (.code F11)
  h20 : ∃ spec, tab 20 = some (.ext spec) ∧ ∀ (k fam b f s : Int) (t : V) (n : Nat), cellOk t = true → n < 4611686018427387904 → spec [.agg (con k fam t b f s), .int .i64 n] = some (.bool (graphB k f s n))

def start0 (n : Nat) : List (List Nat) := (List.range n).map fun a => [a]

set_option maxHeartbeats 2000000 in
theorem start_loop {f s : Nat} (hs : s ≤ 6) {st : St} (h : SI sv (con k fam t bd f s) st []) (h20 : lookupE st.vE 20 = .int .i64 (s : Int)) (h21 : lookupE st.vE 21 = .int .i64 0) :
    ∃ st', execL tab (.loop (rangeBody 22 20 21 29 1 0 F11L0)) st = some (.exit 0, st') ∧ SI sv (con k fam t bd f s) st' (start0 s) := by
  have key : ∃ x st', execL tab (.loop (rangeBody 22 20 21 29 1 0 F11L0)) st = some (x, st') ∧ (x = .exit 0 ∧ SI sv (con k fam t bd f s) st' (start0 s)) := by
   refine range_loop (tab := tab) (b := 22) (n := 20) (i := 21) (t := 29) (blk := 1) (ex := 0) (body := F11L0) (N := s)
    (I := fun i st => SI sv (con k fam t bd f s) st (start0 i) ∧ i ≤ s ∧ lookupE st.vE 20 = .int .i64 (s : Int) ∧ lookupE st.vE 21 = .int .i64 (i : Int))
    (Q := fun x st => x = .exit 0 ∧ SI sv (con k fam t bd f s) st (start0 s))
    (by omega) (by decide) (by decide) (fun i st hI => ⟨hI.2.2.2, hI.2.2.1, hI.1.low⟩) (fun i st hi hI => ?_) (fun st hI => ?_) s 0 st (by omega) ⟨h, Nat.zero_le _, h20, h21⟩
   · obtain ⟨h1, h2, h3, h4⟩ := hI
     obtain ⟨tE, vE, H, low, ro⟩ := st
     simp only at h3 h4
     have hlow : min low H.length = low := Nat.min_eq_left h1.low
     have hH2 : 2 ≤ H.length := by
       have := h1.h1
       rcases Nat.lt_or_ge 1 H.length with q | q
       · omega
       · simp only at this; rw [List.getElem?_eq_none q] at this; cases this
     have hsl : (start0 i).length = i := by simp [start0]
     obtain ⟨v', H', low', k1, k2, k3, k4, k5⟩ := append_s (call := callL tab) (ev := Opd.ev [(27, .list 1 [enc [i]]), (26, enc [i]), (25, .int .i64 (i : Int)), (24, lookupE vE 6)] (setE (setE vE 22 (.bool true)) 7 (.int .i64 (i : Int)))) (a := .tmp 24) (b := .tmp 27) (H := H) (low := H.length) (B := 2) (ps := start0 i) (p := [i]) (by exact h1.ps) rfl hH2 (by rw [hsl]; omega) (Nat.le_refl _)
     have hap : start0 i ++ [[i]] = start0 (i + 1) := by simp [start0, List.range_succ]
     rw [hap] at k2
     have hl26 : ∀ (tE' vE' : Env), lookupE tE' 25 = .int .i64 (i : Int) → stepC (callL tab) (Opd.ev tE' vE') H H.length (.lit 1 [.int .i64 0] 1 [(0, .tmp 25)] true) = some (enc [i], H, H.length) := fun tE' vE' e => by
       simp [S_lit, step, Opd.ev, e, freezeVs, freezeV, freezeD, isP, fillL, cellsV, cellsOk, cellOk, isPs, enc, encL]
     have hl27 : ∀ (tE' vE' : Env), lookupE tE' 26 = enc [i] → stepC (callL tab) (Opd.ev tE' vE') H H.length (.lit 1 [.nil0] 1 [(0, .tmp 26)] true) = some (.list 1 [enc [i]], H, H.length) := fun tE' vE' e => by
       rw [S_lit]
       simp only [step, List.map_cons, List.map_nil, Opd.ev, e]
       rfl
     refine ⟨.normal, ⟨[], setE (setE (setE vE 22 (.bool true)) 7 (.int .i64 (i : Int))) 6 v', H', min (min low low') H'.length, ro⟩, ?_, ?_⟩
     · simp [F11L0, callBody, zipE, execL_seq, execL_region, execL_cond, execL_skip, execL_ret, execL_exit, execL_block, execOps, wantedA, S_mv, S_pick, S_bin, S_un, S_call0, S_call1, S_extract, S_nilEq, S_load, S_alloc, S_box, S_fieldAddr, S_field, Opd.ev, lookupE, lookE_setE, St.put, binA, unA, boolOf, freezeVs, freezeV, freezeD, isP, isPs, resultsA, resultA, finish, old, olds, flat, movedH_same, Nat.min_self, loadA, readCells, cellsV_int, cO_int, cO_bool, cO_str, cO_list, cO_sref, cO_nil0, cO_emp, cellsOk, h4, hlow, hl26, hl27, k1]
     · rw [if_pos (.inl rfl)]
       refine ⟨by simp [lookE_setE, h4], Nat.min_le_right _ _, ⟨Nat.min_le_right _ _, (k4 0 (by omega)).trans h1.h0, (k4 1 (by omega)).trans h1.h1, by simp [lookE_setE, h1.e2], by simp [lookE_setE, h1.e3], by simp [lookE_setE, h1.e5], by simpa [lookE_setE] using k2⟩, by omega, by simp [lookE_setE, h3], by simp [lookE_setE]⟩
   · obtain ⟨h1, h2, h3, h4⟩ := hI
     refine ⟨rfl, ⟨h1.low, h1.h0, h1.h1, by simp [lookE_setE, h1.e2], by simp [lookE_setE, h1.e3], by simp [lookE_setE, h1.e5], by simpa [lookE_setE] using h1.ps⟩⟩
  obtain ⟨x, st', r1, rfl, r3⟩ := key
  exact ⟨st', r1, r3⟩

set_option maxHeartbeats 2000000 in
theorem cycle_s (T : Tc tab) (ht : cellOk t = true) (htp : isP t = true) (hv : VL sv vals) (hsp : isP sv = true) {f s : Int} :
    callL tab (.fn 11 [] []) [.agg (con k fam t bd f s), sv] [] = some (if graphB k f s vals.length then cycV vals f.toNat s.toNat else .nil0, [], 0) := by
  rw [callL_fn, T.h11]
  obtain ⟨spec, hspec, hs20⟩ := T.h20
  have hgr : ∀ H, callL tab (.fn 20 [] []) [.agg (con k fam t bd f s), .int .i64 vals.length] H = some (.bool (graphB k f s vals.length), H, H.length) := fun H =>
    callL_word hspec (by simp [isPs, isP, con, htp]) (hs20 k fam bd f s t vals.length ht hv.lt) H
  have hco : cellsOk (con k fam t bd f s) = true := by simp [con, cellsOk, cO_int, ht]
  have hso : cellOk sv = true := slE_cellOk hv.sl
  have hcs : cellsV sv = [sv] := by
    cases sv <;> first | rfl | (have := hv.sl; simp [slE] at this)
  have hpc : isP (.agg (con k fam t bd f s)) = true := by simp [isPs, isP, con, htp]
  have hl6 : (con k fam t bd f s).length = 6 := rfl
  have htk : List.take 6 (con k fam t bd f s) = con k fam t bd f s := rfl
  have hps : isPs (con k fam t bd f s) = true := by simp [isPs, isP, con, htp]
  rw [F11_for]
  cases hg : graphB k f s vals.length with
  | false =>
    rw [hg] at hgr
    generalize ACode.loop (rangeBody 22 20 21 29 1 0 F11L0) = R1
    generalize ACode.loop F11L3 = R2
    simp only [if_false, Bool.false_eq_true]
    have hcsa : cellsV (.agg (con k fam t bd f s)) = con k fam t bd f s := rfl
    simp [callBody, zipE, execL_seq, execL_region, execL_cond, execL_skip, execL_ret, execL_exit, execL_block, execOps, wantedA, S_mv, S_pick, S_bin, S_un, S_call0, S_call1, S_extract, S_nilEq, S_load, S_alloc, S_box, S_fieldAddr, S_field, Opd.ev, lookupE, lookE_setE, St.put, binA, unA, boolOf, freezeVs, freezeV, freezeD, isP, isPs, resultsA, resultA, finish, old, olds, flat, movedH_same, Nat.min_self, loadA, readCells, cellsV_int, cO_int, cO_bool, cO_str, cO_list, cO_sref, cO_nil0, cO_emp, cellsOk, setE, hcsa, hco, hcs, hso, hl6, htk, hps, S_len 1, hv.sl, hv.len, hgr]
  | true =>
    rw [hg] at hgr
    unfold graphB at hg
    simp only [Bool.and_eq_true, decide_eq_true_eq] at hg
    obtain ⟨⟨⟨⟨hk, h1s⟩, hs6⟩, hf0⟩, hfn⟩ := hg
    obtain ⟨fN, rfl⟩ := Int.eq_ofNat_of_zero_le hf0
    obtain ⟨sN, rfl⟩ := Int.eq_ofNat_of_zero_le (show 0 ≤ s by omega)
    have hroom : fN + sN * sN ≤ vals.length := by
      have : ((sN * sN : Nat) : Int) = (sN : Int) * (sN : Int) := Int.natCast_mul _ _
      omega
    have hs6' : sN ≤ 6 := by omega
    have g : Gr k fam t bd fN sN sv vals := ⟨ht, hk, by omega, hs6', hv, hroom⟩
    have hsi : SI sv (con k fam t bd fN sN) ⟨[], [(0, .agg (con k fam t bd fN sN)), (1, sv), (2, .ptr 0 0), (3, .ptr 1 0), (4, .nil0), (17, .bool false), (5, .fn 24 [] [.ptr 1 0, .ptr 0 0]), (6, .nil0), (20, .int .i64 (sN : Int)), (21, .int .i64 0)], [.cells (con k fam t bd fN sN), .cells [sv]], 0, none⟩ [] :=
      ⟨Nat.zero_le _, rfl, rfl, rfl, rfl, rfl, .none⟩
    obtain ⟨st1, r1, h1⟩ := start_loop (tab := tab) hs6' hsi rfl rfl
    obtain ⟨x, st2, r2, h2, h3⟩ := search_loop T.toTb g (sN + 1) 1 (by omega) (Nat.le_refl _) st1 _ h1 stage_start (by simp [start0]; omega)
    have hcy : cyc (edgeB vals fN sN) sN (sN + 1) (start0 sN) = cycle (edgeB vals fN sN) sN := rfl
    rw [hcy] at h3
    have hcsa : cellsV (.agg (con k fam t bd (fN : Int) (sN : Int))) = con k fam t bd fN sN := rfl
    have hc5 : ∀ h : 5 < (con k fam t bd (fN : Int) (sN : Int)).length, (con k fam t bd (fN : Int) (sN : Int))[5]'h = .int .i64 (sN : Int) := fun _ => rfl
    generalize ACode.loop (rangeBody 22 20 21 29 1 0 F11L0) = R1 at *
    generalize ACode.loop F11L3 = R2 at *
    simp only [if_true, Int.toNat_natCast]
    unfold cycV
    generalize cycle (edgeB vals fN sN) sN = cy at h3 ⊢
    cases cy with
    | none =>
      simp only at h3
      subst h3
      simp [callBody, zipE, execL_seq, execL_region, execL_cond, execL_skip, execL_ret, execL_exit, execL_block, execOps, wantedA, S_mv, S_pick, S_bin, S_un, S_call0, S_call1, S_extract, S_nilEq, S_load, S_alloc, S_box, S_fieldAddr, S_field, Opd.ev, lookupE, lookE_setE, St.put, binA, unA, boolOf, freezeVs, freezeV, freezeD, isP, isPs, resultsA, resultA, finish, old, olds, flat, movedH_same, Nat.min_self, loadA, readCells, cellsV_int, cO_int, cO_bool, cO_str, cO_list, cO_sref, cO_nil0, cO_emp, cellsOk, setE, hcsa, hco, hcs, hso, hl6, htk, hps, S_len 1, hv.sl, hv.len, hgr, S_mkFn, hc5, r1, r2]
    | some p =>
      simp only at h3
      obtain ⟨rfl, h4⟩ := h3
      simp [callBody, zipE, execL_seq, execL_region, execL_cond, execL_skip, execL_ret, execL_exit, execL_block, execOps, wantedA, S_mv, S_pick, S_bin, S_un, S_call0, S_call1, S_extract, S_nilEq, S_load, S_alloc, S_box, S_fieldAddr, S_field, Opd.ev, lookupE, lookE_setE, St.put, binA, unA, boolOf, freezeVs, freezeV, freezeD, isP, isPs, resultsA, resultA, finish, old, olds, flat, movedH_same, Nat.min_self, loadA, readCells, cellsV_int, cO_int, cO_bool, cO_str, cO_list, cO_sref, cO_nil0, cO_emp, cellsOk, setE, hcsa, hco, hcs, hso, hl6, htk, hps, S_len 1, hv.sl, hv.len, hgr, S_mkFn, hc5, r1, r2, h4, enc_isP]
      exact fun h => absurd h (by simp [enc, old])
end
end Go.Abs.T12
/- ConstraintCycles: the pieces. -/
namespace Go.Abs.T12
open Go Go.Abs Go.Abs.Cyc

def F4P0 : ACode := .region [⟨some (8, true), .mv (.const (.bool false)), none⟩] none
def F4P1 : ACode := .seq (.region [⟨some (22, false), .call false (.func 5) [], none⟩, ⟨some (23, true), .un .not (.tmp 22), none⟩] none) (.cond (.var 23) (.seq (.region [⟨some (8, true), .mv (.const (.bool false)), none⟩] none) (.ret)) (.skip))
def F4P2 : ACode := .region [⟨some (24, false), .mv (.var 0), none⟩, ⟨some (25, false), .conv .i64 (.tmp 24), none⟩, ⟨some (26, false), .bin .rem (.tmp 25) (.const (.int .i64 6)), none⟩, ⟨some (27, false), .bin .add (.const (.int .i64 1)) (.tmp 26), none⟩, ⟨some (9, true), .mv (.tmp 27), none⟩] none
def F4P3 : ACode := .region [⟨some (28, false), .mv (.var 9), none⟩, ⟨some (29, false), .build [.int .i64 0, .int .i64 0, .nil0, .int .i64 0, .int .i64 0, .int .i64 0] [(0, 1, (.const (.int .i64 1))), (4, 1, (.const (.int .i64 1))), (5, 1, (.tmp 28))], none⟩, ⟨some (10, true), .alloc [.int .i64 0, .int .i64 0, .nil0, .int .i64 0, .int .i64 0, .int .i64 0], none⟩, ⟨none, .store 6 (.var 10) (.tmp 29), none⟩] none
def F4P4 : ACode := .region [⟨some (30, false), .mv (.var 9), none⟩, ⟨some (31, false), .mv (.var 9), none⟩, ⟨some (32, false), .bin .mul (.tmp 30) (.tmp 31), none⟩, ⟨some (33, false), .bin .add (.const (.int .i64 1)) (.tmp 32), none⟩, ⟨some (34, false), .mkSlice 1 [.int .i64 0] 8 (.tmp 33) (.tmp 33), none⟩, ⟨some (35, false), .mv (.var 9), none⟩, ⟨some (36, false), .mv (.var 9), none⟩, ⟨some (37, false), .bin .mul (.tmp 35) (.tmp 36), none⟩, ⟨some (38, false), .bin .add (.const (.int .i64 1)) (.tmp 37), none⟩, ⟨some (39, false), .mkSlice 1 [.int .i64 0] 8 (.tmp 38) (.tmp 38), none⟩, ⟨some (11, true), .mv (.tmp 34), none⟩, ⟨some (12, true), .mv (.tmp 39), none⟩] (some [0, 0, 3, 7, 15, 0, 0, 96, 224, 480, 31, 2047])
def F4P5 : ACode := .seq (.region [⟨some (40, false), .mv (.var 9), none⟩, ⟨some (41, false), .mv (.var 9), none⟩, ⟨some (42, true), .bin .mul (.tmp 40) (.tmp 41), none⟩, ⟨some (43, true), .mv (.const (.int .i64 0)), none⟩] none) (.block 0 (.loop (rangeBody 44 42 43 71 1 0 F4L0)))
def F4P6 : ACode := .region [⟨some (72, false), .load (some 6) (.var 10), none⟩, ⟨some (73, false), .mv (.var 11), none⟩, ⟨some (74, false), .call false (.func 11) [(.tmp 72), (.tmp 73)], none⟩, ⟨some (14, true), .mv (.tmp 74), none⟩] none
def F4P7 : ACode := .seq (.region [⟨some (75, false), .load (some 6) (.var 10), none⟩, ⟨some (76, false), .mv (.var 11), none⟩, ⟨some (77, false), .call false (.func 8) [(.tmp 75), (.tmp 76)], none⟩, ⟨some (78, false), .mv (.var 14), none⟩, ⟨some (79, false), .len 1 (.tmp 78), none⟩, ⟨some (80, false), .bin .eql (.tmp 79) (.const (.int .i64 0)), none⟩, ⟨some (81, false), .nilEq 4 true (.tmp 77) (.tmp 80), none⟩, ⟨some (82, false), .mv (.tmp 81), none⟩, ⟨some (83, false), .mv (.var 14), some ((.tmp 82), false)⟩, ⟨some (84, false), .len 1 (.tmp 83), some ((.tmp 82), false)⟩, ⟨some (85, false), .mv (.var 9), some ((.tmp 82), false)⟩, ⟨some (86, false), .bin .gtr (.tmp 84) (.tmp 85), some ((.tmp 82), false)⟩, ⟨some (87, true), .pick (.tmp 82) (.const (.bool true)) (.tmp 86), none⟩] none) (.cond (.var 87) (.seq (.region [⟨some (8, true), .mv (.const (.bool false)), none⟩] none) (.ret)) (.skip))
def F4P8 : ACode := .region [⟨some (88, false), .mkMap, none⟩, ⟨some (15, true), .mv (.tmp 88), none⟩] none
def F4P9 : ACode := .seq (.region [⟨some (89, true), .mv (.var 14), none⟩, ⟨some (90, true), .len 1 (.var 89), none⟩, ⟨some (91, true), .mv (.const (.int .i64 0)), none⟩] none) (.block 2 (.loop (rangeBody 92 90 91 146 3 2 F4L1)))
def F4P10 : ACode := .seq (.region [⟨some (147, false), .load (some 6) (.var 10), none⟩, ⟨some (148, false), .mv (.var 12), none⟩, ⟨some (149, false), .call false (.func 8) [(.tmp 147), (.tmp 148)], none⟩, ⟨some (150, false), .un .not (.tmp 149), none⟩, ⟨some (151, false), .mv (.tmp 150), none⟩, ⟨some (152, false), .load (some 6) (.var 10), some ((.tmp 151), false)⟩, ⟨some (153, false), .mv (.var 12), some ((.tmp 151), false)⟩, ⟨some (154, false), .call false (.func 11) [(.tmp 152), (.tmp 153)], some ((.tmp 151), false)⟩, ⟨some (155, false), .len 1 (.tmp 154), some ((.tmp 151), false)⟩, ⟨some (156, false), .bin .neq (.tmp 155) (.const (.int .i64 0)), some ((.tmp 151), false)⟩, ⟨some (157, true), .pick (.tmp 151) (.const (.bool true)) (.tmp 156), none⟩] none) (.cond (.var 157) (.seq (.region [⟨some (8, true), .mv (.const (.bool false)), none⟩] none) (.ret)) (.skip))
def F4P11 : ACode := .region [⟨some (158, false), .mv (.var 2), none⟩, ⟨some (159, false), .conv .i64 (.tmp 158), none⟩, ⟨some (160, false), .mv (.var 9), none⟩, ⟨some (161, false), .bin .rem (.tmp 159) (.tmp 160), none⟩, ⟨some (162, false), .mv (.var 3), none⟩, ⟨some (163, false), .conv .i64 (.tmp 162), none⟩, ⟨some (164, false), .mv (.var 9), none⟩, ⟨some (165, false), .bin .rem (.tmp 163) (.tmp 164), none⟩, ⟨some (19, true), .mv (.tmp 161), none⟩, ⟨some (20, true), .mv (.tmp 165), none⟩] (some [0, 1, 0, 7, 0, 16, 0, 112, 15, 511])
def F4P12 : ACode := .seq (.region [⟨some (166, false), .mv (.var 19), none⟩, ⟨some (167, false), .mv (.var 20), none⟩, ⟨some (168, true), .bin .gtr (.tmp 166) (.tmp 167), none⟩] none) (.cond (.var 168) (.region [⟨some (169, false), .mv (.var 20), none⟩, ⟨some (170, false), .mv (.var 19), none⟩, ⟨some (19, true), .mv (.tmp 169), none⟩, ⟨some (20, true), .mv (.tmp 170), none⟩] none) (.skip))
def F4P13 : ACode := .region [⟨some (171, false), .mv (.var 12), none⟩, ⟨some (172, false), .mv (.var 19), none⟩, ⟨some (173, false), .mv (.var 9), none⟩, ⟨some (174, false), .bin .mul (.tmp 172) (.tmp 173), none⟩, ⟨some (175, false), .bin .add (.const (.int .i64 1)) (.tmp 174), none⟩, ⟨some (176, false), .mv (.var 20), none⟩, ⟨some (177, false), .bin .add (.tmp 175) (.tmp 176), none⟩, ⟨some (178, false), .mv (.var 12), none⟩, ⟨some (179, false), .mv (.var 20), none⟩, ⟨some (180, false), .mv (.var 9), none⟩, ⟨some (181, false), .bin .mul (.tmp 179) (.tmp 180), none⟩, ⟨some (182, false), .bin .add (.const (.int .i64 1)) (.tmp 181), none⟩, ⟨some (183, false), .mv (.var 19), none⟩, ⟨some (184, false), .bin .add (.tmp 182) (.tmp 183), none⟩, ⟨some (185, false), .indexAddr 1 (.tmp 171) (.tmp 177), none⟩, ⟨none, .store 1 (.tmp 185) (.const (.int .i64 1)), none⟩, ⟨some (186, false), .indexAddr 1 (.tmp 178) (.tmp 184), none⟩, ⟨none, .store 1 (.tmp 186) (.const (.int .i64 1)), none⟩] none
def F4P14 : ACode := .region [⟨some (187, false), .load (some 6) (.var 10), none⟩, ⟨some (188, false), .mv (.var 12), none⟩, ⟨some (189, false), .call false (.func 11) [(.tmp 187), (.tmp 188)], none⟩, ⟨some (21, true), .mv (.tmp 189), none⟩] none
def F4P15 : ACode := .region [⟨some (190, false), .load (some 6) (.var 10), none⟩, ⟨some (191, false), .mv (.var 12), none⟩, ⟨some (192, false), .call false (.func 8) [(.tmp 190), (.tmp 191)], none⟩, ⟨some (193, false), .un .not (.tmp 192), none⟩, ⟨some (194, false), .mv (.tmp 193), none⟩, ⟨some (195, false), .mv (.var 21), some ((.tmp 194), true)⟩, ⟨some (196, false), .len 1 (.tmp 195), some ((.tmp 194), true)⟩, ⟨some (197, false), .bin .geq (.tmp 196) (.const (.int .i64 1)), some ((.tmp 194), true)⟩, ⟨some (198, false), .pick (.tmp 194) (.tmp 197) (.const (.bool false)), none⟩, ⟨some (199, false), .mv (.tmp 198), none⟩, ⟨some (200, false), .mv (.var 21), some ((.tmp 199), true)⟩, ⟨some (201, false), .len 1 (.tmp 200), some ((.tmp 199), true)⟩, ⟨some (202, false), .bin .leq (.tmp 201) (.const (.int .i64 2)), some ((.tmp 199), true)⟩, ⟨some (203, false), .pick (.tmp 199) (.tmp 202) (.const (.bool false)), none⟩, ⟨some (204, false), .mv (.tmp 203), none⟩, ⟨some (205, false), .mv (.var 19), some ((.tmp 204), true)⟩, ⟨some (206, false), .mv (.var 20), some ((.tmp 204), true)⟩, ⟨some (207, false), .bin .neq (.tmp 205) (.tmp 206), some ((.tmp 204), true)⟩, ⟨some (208, false), .mv (.tmp 207), some ((.tmp 204), true)⟩, ⟨some (209, false), .mv (.var 21), some ((.tmp 208), false)⟩, ⟨some (210, false), .len 1 (.tmp 209), some ((.tmp 208), false)⟩, ⟨some (211, false), .bin .eql (.tmp 210) (.const (.int .i64 1)), some ((.tmp 208), false)⟩, ⟨some (212, false), .pick (.tmp 208) (.const (.bool true)) (.tmp 211), some ((.tmp 204), true)⟩, ⟨some (213, false), .pick (.tmp 204) (.tmp 212) (.const (.bool false)), none⟩, ⟨some (8, true), .mv (.tmp 213), none⟩] none
def F4P16 : ACode := .ret
theorem F4_seq : F4 = ⟨214, .seq F4P0 (.seq F4P1 (.seq F4P2 (.seq F4P3 (.seq F4P4 (.seq F4P5 (.seq F4P6 (.seq F4P7 (.seq F4P8 (.seq F4P9 (.seq F4P10 (.seq F4P11 (.seq F4P12 (.seq F4P13 (.seq F4P14 (.seq F4P15 F4P16))))))))))))))), [.tmp 8], false⟩ := rfl
def F8P0 : ACode := .region [⟨some (2, true), .box (.var 0), none⟩, ⟨some (4, true), .mv (.const (.bool false)), none⟩] none
def F8P1 : ACode := .seq (.region [⟨some (9, false), .fieldAddr 0 (.var 2), none⟩, ⟨some (10, false), .load none (.tmp 9), none⟩, ⟨some (11, true), .bin .eql (.tmp 10) (.const (.int .i64 1)), none⟩] none) (.cond (.var 11) (.seq (.region [⟨some (12, false), .load (some 6) (.var 2), none⟩, ⟨some (13, false), .mv (.var 1), none⟩, ⟨some (14, false), .len 1 (.tmp 13), none⟩, ⟨some (15, false), .call false (.func 20) [(.tmp 12), (.tmp 14)], none⟩, ⟨some (16, false), .mv (.tmp 15), none⟩, ⟨some (17, false), .load (some 6) (.var 2), some ((.tmp 16), true)⟩, ⟨some (18, false), .mv (.var 1), some ((.tmp 16), true)⟩, ⟨some (19, false), .call false (.func 11) [(.tmp 17), (.tmp 18)], some ((.tmp 16), true)⟩, ⟨some (20, false), .len 1 (.tmp 19), some ((.tmp 16), true)⟩, ⟨some (21, false), .bin .eql (.tmp 20) (.const (.int .i64 0)), some ((.tmp 16), true)⟩, ⟨some (22, false), .pick (.tmp 16) (.tmp 21) (.const (.bool false)), none⟩, ⟨some (4, true), .mv (.tmp 22), none⟩] none) (.ret)) (.skip))
def F8P2 : ACode := .region [⟨some (5, true), .mv (.const (.int .i64 0)), none⟩, ⟨some (6, true), .mv (.const (.int .i64 0)), none⟩] none
def F8P3 : ACode := .seq (.region [⟨some (23, false), .fieldAddr 2 (.var 2), none⟩, ⟨some (24, false), .fieldAddr 0 (.tmp 23), none⟩, ⟨some (25, true), .load none (.tmp 24), none⟩, ⟨some (26, true), .len 1 (.var 25), none⟩, ⟨some (27, true), .mv (.const (.int .i64 0)), none⟩] none) (.block 0 (.loop (rangeBody 28 26 27 63 1 0 F8L0)))
def F8P4 : ACode := .region [⟨some (64, false), .fieldAddr 0 (.var 2), none⟩, ⟨some (65, false), .load none (.tmp 64), none⟩, ⟨some (66, false), .bin .eql (.tmp 65) (.const (.int .i64 0)), none⟩, ⟨some (67, false), .mv (.tmp 66), none⟩, ⟨some (68, false), .mv (.var 5), some ((.tmp 67), true)⟩, ⟨some (69, false), .mv (.var 6), some ((.tmp 67), true)⟩, ⟨some (70, false), .fieldAddr 2 (.var 2), some ((.tmp 67), true)⟩, ⟨some (71, false), .fieldAddr 1 (.tmp 70), some ((.tmp 67), true)⟩, ⟨some (72, false), .load none (.tmp 71), some ((.tmp 67), true)⟩, ⟨some (73, false), .call false (.func 21) [(.tmp 68), (.tmp 69), (.tmp 72)], some ((.tmp 67), true)⟩, ⟨some (74, false), .pick (.tmp 67) (.tmp 73) (.const (.bool false)), none⟩, ⟨some (4, true), .mv (.tmp 74), none⟩] none
def F8P5 : ACode := .ret
theorem F8_seq : F8 = ⟨75, .seq F8P0 (.seq F8P1 (.seq F8P2 (.seq F8P3 (.seq F8P4 F8P5)))), [.tmp 4], false⟩ := rfl
def F4P4M0 : List AOper := [⟨some (30, false), .mv (.var 9), none⟩, ⟨some (31, false), .mv (.var 9), none⟩, ⟨some (32, false), .bin .mul (.tmp 30) (.tmp 31), none⟩, ⟨some (33, false), .bin .add (.const (.int .i64 1)) (.tmp 32), none⟩, ⟨some (34, false), .mkSlice 1 [.int .i64 0] 8 (.tmp 33) (.tmp 33), none⟩, ⟨some (35, false), .mv (.var 9), none⟩, ⟨some (36, false), .mv (.var 9), none⟩, ⟨some (37, false), .bin .mul (.tmp 35) (.tmp 36), none⟩, ⟨some (38, false), .bin .add (.const (.int .i64 1)) (.tmp 37), none⟩, ⟨some (39, false), .mkSlice 1 [.int .i64 0] 8 (.tmp 38) (.tmp 38), none⟩, ⟨some (11, true), .mv (.tmp 34), none⟩, ⟨some (12, true), .mv (.tmp 39), none⟩]
theorem F4P4_cut : F4P4 = .region (F4P4M0) (some [0, 0, 3, 7, 15, 0, 0, 96, 224, 480, 31, 2047]) := rfl
def F4P13M0 : List AOper := [⟨some (171, false), .mv (.var 12), none⟩, ⟨some (172, false), .mv (.var 19), none⟩, ⟨some (173, false), .mv (.var 9), none⟩, ⟨some (174, false), .bin .mul (.tmp 172) (.tmp 173), none⟩, ⟨some (175, false), .bin .add (.const (.int .i64 1)) (.tmp 174), none⟩, ⟨some (176, false), .mv (.var 20), none⟩, ⟨some (177, false), .bin .add (.tmp 175) (.tmp 176), none⟩, ⟨some (178, false), .mv (.var 12), none⟩, ⟨some (179, false), .mv (.var 20), none⟩]
def F4P13M1 : List AOper := [⟨some (180, false), .mv (.var 9), none⟩, ⟨some (181, false), .bin .mul (.tmp 179) (.tmp 180), none⟩, ⟨some (182, false), .bin .add (.const (.int .i64 1)) (.tmp 181), none⟩, ⟨some (183, false), .mv (.var 19), none⟩, ⟨some (184, false), .bin .add (.tmp 182) (.tmp 183), none⟩, ⟨some (185, false), .indexAddr 1 (.tmp 171) (.tmp 177), none⟩, ⟨none, .store 1 (.tmp 185) (.const (.int .i64 1)), none⟩, ⟨some (186, false), .indexAddr 1 (.tmp 178) (.tmp 184), none⟩, ⟨none, .store 1 (.tmp 186) (.const (.int .i64 1)), none⟩]
theorem F4P13_cut : F4P13 = .region (F4P13M0 ++ F4P13M1) none := rfl
def F4P15M0 : List AOper := [⟨some (190, false), .load (some 6) (.var 10), none⟩, ⟨some (191, false), .mv (.var 12), none⟩, ⟨some (192, false), .call false (.func 8) [(.tmp 190), (.tmp 191)], none⟩, ⟨some (193, false), .un .not (.tmp 192), none⟩]
def F4P15M1 : List AOper := [⟨some (194, false), .mv (.tmp 193), none⟩, ⟨some (195, false), .mv (.var 21), some ((.tmp 194), true)⟩, ⟨some (196, false), .len 1 (.tmp 195), some ((.tmp 194), true)⟩, ⟨some (197, false), .bin .geq (.tmp 196) (.const (.int .i64 1)), some ((.tmp 194), true)⟩, ⟨some (198, false), .pick (.tmp 194) (.tmp 197) (.const (.bool false)), none⟩]
def F4P15M2 : List AOper := [⟨some (199, false), .mv (.tmp 198), none⟩, ⟨some (200, false), .mv (.var 21), some ((.tmp 199), true)⟩, ⟨some (201, false), .len 1 (.tmp 200), some ((.tmp 199), true)⟩, ⟨some (202, false), .bin .leq (.tmp 201) (.const (.int .i64 2)), some ((.tmp 199), true)⟩, ⟨some (203, false), .pick (.tmp 199) (.tmp 202) (.const (.bool false)), none⟩]
def F4P15M3 : List AOper := [⟨some (204, false), .mv (.tmp 203), none⟩, ⟨some (205, false), .mv (.var 19), some ((.tmp 204), true)⟩, ⟨some (206, false), .mv (.var 20), some ((.tmp 204), true)⟩, ⟨some (207, false), .bin .neq (.tmp 205) (.tmp 206), some ((.tmp 204), true)⟩, ⟨some (208, false), .mv (.tmp 207), some ((.tmp 204), true)⟩, ⟨some (209, false), .mv (.var 21), some ((.tmp 208), false)⟩, ⟨some (210, false), .len 1 (.tmp 209), some ((.tmp 208), false)⟩, ⟨some (211, false), .bin .eql (.tmp 210) (.const (.int .i64 1)), some ((.tmp 208), false)⟩, ⟨some (212, false), .pick (.tmp 208) (.const (.bool true)) (.tmp 211), some ((.tmp 204), true)⟩, ⟨some (213, false), .pick (.tmp 204) (.tmp 212) (.const (.bool false)), none⟩, ⟨some (8, true), .mv (.tmp 213), none⟩]
theorem F4P15_cut : F4P15 = .region (F4P15M0 ++ (F4P15M1 ++ (F4P15M2 ++ F4P15M3))) none := rfl
def F4L1M0 : List AOper := [⟨some (104, false), .mv (.var 17), none⟩, ⟨some (105, false), .bin .lss (.tmp 104) (.const (.int .i64 0)), none⟩]
def F4L1M1 : List AOper := [⟨some (106, false), .mv (.tmp 105), none⟩, ⟨some (107, false), .mv (.var 17), some ((.tmp 106), false)⟩, ⟨some (108, false), .mv (.var 9), some ((.tmp 106), false)⟩, ⟨some (109, false), .bin .geq (.tmp 107) (.tmp 108), some ((.tmp 106), false)⟩, ⟨some (110, false), .pick (.tmp 106) (.const (.bool true)) (.tmp 109), none⟩]
def F4L1M2 : List AOper := [⟨some (111, false), .mv (.tmp 110), none⟩, ⟨some (112, false), .mv (.var 18), some ((.tmp 111), false)⟩, ⟨some (113, false), .bin .lss (.tmp 112) (.const (.int .i64 0)), some ((.tmp 111), false)⟩, ⟨some (114, false), .pick (.tmp 111) (.const (.bool true)) (.tmp 113), none⟩]
def F4L1M3 : List AOper := [⟨some (115, false), .mv (.tmp 114), none⟩, ⟨some (116, false), .mv (.var 18), some ((.tmp 115), false)⟩, ⟨some (117, false), .mv (.var 9), some ((.tmp 115), false)⟩, ⟨some (118, false), .bin .geq (.tmp 116) (.tmp 117), some ((.tmp 115), false)⟩, ⟨some (119, false), .pick (.tmp 115) (.const (.bool true)) (.tmp 118), none⟩]
def F4L1M4 : List AOper := [⟨some (120, false), .mv (.tmp 119), none⟩, ⟨some (121, false), .mv (.var 11), some ((.tmp 120), false)⟩, ⟨some (122, false), .mv (.var 17), some ((.tmp 120), false)⟩, ⟨some (123, false), .mv (.var 9), some ((.tmp 120), false)⟩, ⟨some (124, false), .bin .mul (.tmp 122) (.tmp 123), some ((.tmp 120), false)⟩, ⟨some (125, false), .bin .add (.const (.int .i64 1)) (.tmp 124), some ((.tmp 120), false)⟩, ⟨some (126, false), .mv (.var 18), some ((.tmp 120), false)⟩, ⟨some (127, false), .bin .add (.tmp 125) (.tmp 126), some ((.tmp 120), false)⟩, ⟨some (128, false), .indexAddr 1 (.tmp 121) (.tmp 127), some ((.tmp 120), false)⟩, ⟨some (129, false), .load none (.tmp 128), some ((.tmp 120), false)⟩, ⟨some (130, false), .bin .lss (.tmp 129) (.const (.int .i64 1)), some ((.tmp 120), false)⟩, ⟨some (131, false), .pick (.tmp 120) (.const (.bool true)) (.tmp 130), none⟩]
def F4L1M5 : List AOper := [⟨some (132, false), .mv (.tmp 131), none⟩, ⟨some (133, false), .mv (.var 15), some ((.tmp 132), false)⟩, ⟨some (134, false), .mv (.var 17), some ((.tmp 132), false)⟩, ⟨some (135, false), .lookup 0 (.bool false) (.tmp 133) (.tmp 134) false, some ((.tmp 132), false)⟩, ⟨some (136, false), .pick (.tmp 132) (.const (.bool true)) (.tmp 135), none⟩]
def F4L1M6 : List AOper := [⟨some (137, false), .mv (.tmp 136), none⟩, ⟨some (138, false), .mv (.var 17), some ((.tmp 137), false)⟩, ⟨some (139, false), .mv (.var 14), some ((.tmp 137), false)⟩, ⟨some (140, false), .indexAddr 1 (.tmp 139) (.const (.int .i64 0)), some ((.tmp 137), false)⟩, ⟨some (141, false), .load none (.tmp 140), some ((.tmp 137), false)⟩, ⟨some (142, false), .bin .lss (.tmp 138) (.tmp 141), some ((.tmp 137), false)⟩, ⟨some (143, true), .pick (.tmp 137) (.const (.bool true)) (.tmp 142), none⟩]
theorem F4L1_cut : F4L1 = .seq (.region [⟨some (93, false), .mv (.var 91), none⟩, ⟨some (94, false), .indexAddr 1 (.var 89) (.var 91), none⟩, ⟨some (95, false), .load none (.tmp 94), none⟩, ⟨some (16, true), .mv (.tmp 93), none⟩, ⟨some (17, true), .mv (.tmp 95), none⟩] none) (.seq (.region [⟨some (96, false), .mv (.var 14), none⟩, ⟨some (97, false), .mv (.var 16), none⟩, ⟨some (98, false), .bin .add (.tmp 97) (.const (.int .i64 1)), none⟩, ⟨some (99, false), .mv (.var 14), none⟩, ⟨some (100, false), .len 1 (.tmp 99), none⟩, ⟨some (101, false), .bin .rem (.tmp 98) (.tmp 100), none⟩, ⟨some (102, false), .indexAddr 1 (.tmp 96) (.tmp 101), none⟩, ⟨some (103, false), .load none (.tmp 102), none⟩, ⟨some (18, true), .mv (.tmp 103), none⟩] none) (.seq (.seq (.region (F4L1M0 ++ (F4L1M1 ++ (F4L1M2 ++ (F4L1M3 ++ (F4L1M4 ++ (F4L1M5 ++ F4L1M6)))))) none) (.cond (.var 143) (.seq (.region [⟨some (8, true), .mv (.const (.bool false)), none⟩] none) (.ret)) (.skip))) (.region [⟨some (144, false), .mv (.var 15), none⟩, ⟨some (145, false), .mv (.var 17), none⟩, ⟨none, .mapUpd 0 (.tmp 144) (.tmp 145) (.const (.bool true)), none⟩] none))) := rfl
end Go.Abs.T12
/- constraint.Holds at a graph. -/
namespace Go.Abs.T12
open Go Go.Abs Go.Abs.Cyc

def noCyc (vals : List Int) (f s : Nat) : Bool := (cycle (edgeB vals f s) s).isNone

/-- The words of graph and Cycle in a table. -/
structure Tw (tab : Nat → Option Fun) : Prop where
  h20 : ∃ spec, tab 20 = some (.ext spec) ∧ ∀ (k fam b f s : Int) (t : V) (n : Nat), cellOk t = true → n < 4611686018427387904 → spec [.agg (con k fam t b f s), .int .i64 n] = some (.bool (graphB k f s n))
  h11 : ∃ spec, tab 11 = some (.ext spec) ∧ ∀ (k fam b f s : Int) (t sv : V) (vals : List Int), cellOk t = true → isP t = true → VL sv vals → isP sv = true → spec [.agg (con k fam t b f s), sv] = some (if graphB k f s vals.length then cycV vals f.toNat s.toNat else .nil0)

section
variable {tab : Nat → Option Fun} {k fam bd : Int} {t sv : V} {vals : List Int} {f s : Int}

theorem con_isPs (htp : isP t = true) : isPs (con k fam t bd f s) = true := by simp [isPs, isP, con, htp]
theorem con_ok (ht : cellOk t = true) : cellsOk (con k fam t bd f s) = true := by simp [con, cellsOk, cO_int, ht]

theorem Tw.graph (T : Tw tab) (ht : cellOk t = true) (htp : isP t = true) {n : Nat} (hn : n < 4611686018427387904) (H : Heap) : callL tab (.fn 20 [] []) [.agg (con k fam t bd f s), .int .i64 n] H = some (.bool (graphB k f s n), H, H.length) := by
  obtain ⟨spec, h1, h2⟩ := T.h20
  exact callL_word h1 (by simp [isPs, isP, con, htp]) (h2 k fam bd f s t n ht hn) H
theorem Tw.cycle (T : Tw tab) (ht : cellOk t = true) (htp : isP t = true) (hv : VL sv vals) (hsp : isP sv = true) (H : Heap) :
    callL tab (.fn 11 [] []) [.agg (con k fam t bd f s), sv] H = some (if graphB k f s vals.length then cycV vals f.toNat s.toNat else .nil0, H, H.length) := by
  obtain ⟨spec, h1, h2⟩ := T.h11
  exact callL_word h1 (by simp [isPs, isP, con, htp, hsp]) (h2 k fam bd f s t sv vals ht htp hv hsp) H

theorem cycV_cases (vals : List Int) (f s : Nat) : (cycV vals f s = .nil0 ∧ noCyc vals f s = true ∧ cycle (edgeB vals f s) s = none) ∨ ∃ p, cycV vals f s = enc p ∧ noCyc vals f s = false ∧ cycle (edgeB vals f s) s = some p ∧ p ≠ [] := by
  unfold cycV noCyc
  cases h : cycle (edgeB vals f s) s with
  | none => exact .inl ⟨rfl, rfl, rfl⟩
  | some p => exact .inr ⟨p, rfl, rfl, rfl, (cycle_some h).1.ne⟩

set_option maxHeartbeats 2000000 in
theorem holds_a (h8 : tab 8 = some (.code F8)) (T : Tw tab) (ht : cellOk t = true) (htp : isP t = true) (hv : VL sv vals) (hsp : isP sv = true) :
    callL tab (.fn 8 [] []) [.agg (con 1 fam t bd f s), sv] [] = some (.bool (graphB 1 f s vals.length && noCyc vals f.toNat s.toNat), [], 0) := by
  rw [callL_fn, h8, F8_seq]
  have hg := fun H => T.graph (k := 1) (fam := fam) (bd := bd) (f := f) (s := s) ht htp hv.lt H
  have hc := fun H => T.cycle (k := 1) (fam := fam) (bd := bd) (f := f) (s := s) ht htp hv hsp H
  have hco : cellsOk (con 1 fam t bd f s) = true := con_ok ht
  have hcsa : cellsV (.agg (con 1 fam t bd f s)) = con 1 fam t bd f s := rfl
  have hl6 : (con 1 fam t bd f s).length = 6 := rfl
  have htk : List.take 6 (con 1 fam t bd f s) = con 1 fam t bd f s := rfl
  have hps := con_isPs (k := 1) (fam := fam) (bd := bd) (f := f) (s := s) htp
  have hc0 : ∀ h : 0 < (con 1 fam t bd f s).length, (con 1 fam t bd f s)[0]'h = .int .i64 1 := fun _ => rfl
  generalize F8P2 = R2
  generalize F8P3 = R3
  generalize F8P4 = R4
  generalize F8P5 = R5
  cases hgb : graphB 1 f s vals.length with
  | false =>
    rw [hgb] at hg
    simp [F8P0, F8P1, callBody, zipE, execL_seq, execL_region, execL_cond, execL_skip, execL_ret, execL_exit, execL_block, execOps, wantedA, S_mv, S_pick, S_bin, S_un, S_call0, S_call1, S_extract, S_nilEq, S_load, S_alloc, S_box, S_fieldAddr, S_field, Opd.ev, lookupE, lookE_setE, St.put, binA, unA, boolOf, freezeVs, freezeV, freezeD, isP, isPs, resultsA, resultA, finish, old, olds, flat, movedH_same, Nat.min_self, loadA, readCells, cellsV_int, cO_int, cO_bool, cO_str, cO_list, cO_sref, cO_nil0, cO_emp, cellsOk, setE, hcsa, hco, hl6, htk, hps, hc0, S_len 1, hv.sl, hv.len, hg, hsp]
  | true =>
    rw [hgb] at hg
    simp only [hgb, if_true] at hc
    rcases cycV_cases vals f.toNat s.toNat with ⟨e1, e2, -⟩ | ⟨p, e1, e2, -, hne⟩
    · rw [e1] at hc
      rw [e2]
      have hz : ∀ (tE vE : Env) (H : Heap) (low : Nat), lookupE tE 19 = .nil0 → stepC (callL tab) (Opd.ev tE vE) H low (.len 1 (.tmp 19)) = some (.int .i64 0, H, low) := fun tE vE H low e => by
        rw [S_len 1 (by simp only [Opd.ev]; rw [e]; rfl)]; simp only [Opd.ev]; rw [e]; rfl
      simp [F8P0, F8P1, callBody, zipE, execL_seq, execL_region, execL_cond, execL_skip, execL_ret, execL_exit, execL_block, execOps, wantedA, S_mv, S_pick, S_bin, S_un, S_call0, S_call1, S_extract, S_nilEq, S_load, S_alloc, S_box, S_fieldAddr, S_field, Opd.ev, lookupE, lookE_setE, St.put, binA, unA, boolOf, freezeVs, freezeV, freezeD, isP, isPs, resultsA, resultA, finish, old, olds, flat, movedH_same, Nat.min_self, loadA, readCells, cellsV_int, cO_int, cO_bool, cO_str, cO_list, cO_sref, cO_nil0, cO_emp, cellsOk, setE, hcsa, hco, hl6, htk, hps, hc0, hz, S_len 1, hv.sl, hv.len, hg, hc, hsp]
    · rw [e1] at hc
      rw [e2]
      have hz : ∀ (tE vE : Env) (H : Heap) (low : Nat), lookupE tE 19 = enc p → stepC (callL tab) (Opd.ev tE vE) H low (.len 1 (.tmp 19)) = some (.int .i64 p.length, H, low) := fun tE vE H low e => by
        rw [S_len 1 (by simp only [Opd.ev]; rw [e]; rfl)]; simp only [Opd.ev]; rw [e]; simp [enc, el, encL]
      have hp0 : ((p.length : Int) == 0) = false := by
        have : 0 < p.length := by
          cases p with
          | nil => exact absurd rfl hne
          | cons => simp
        rw [beq_eq_false_iff_ne]; omega
      simp [F8P0, F8P1, callBody, zipE, execL_seq, execL_region, execL_cond, execL_skip, execL_ret, execL_exit, execL_block, execOps, wantedA, S_mv, S_pick, S_bin, S_un, S_call0, S_call1, S_extract, S_nilEq, S_load, S_alloc, S_box, S_fieldAddr, S_field, Opd.ev, lookupE, lookE_setE, St.put, binA, unA, boolOf, freezeVs, freezeV, freezeD, isP, isPs, resultsA, resultA, finish, old, olds, flat, movedH_same, Nat.min_self, loadA, readCells, cellsV_int, cO_int, cO_bool, cO_str, cO_list, cO_sref, cO_nil0, cO_emp, cellsOk, setE, hcsa, hco, hl6, htk, hps, hc0, hz, S_len 1, hv.sl, hv.len, hg, hc, hsp, enc_isP, hne]
end
end Go.Abs.T12
/- Rows of ints that a law writes and hands to words; ConstraintCycles: the graphs are laid. -/
namespace Go.Abs.T12
open Go Go.Abs Go.Abs.Cyc

theorem S_conv {call : CallT} {ev : Opd → V} {H : Heap} {low : Nat} (k : IntKind) (x : Opd) : stepC call ev H low (.conv k x) = match ev x with
    | .int _ n => some (.int k (k.wrap n), H, low)
    | _ => none := rfl

def ints (A : List Int) : List V := A.map (.int .i64)
theorem ints_len (A : List Int) : (ints A).length = A.length := List.length_map _
theorem ints_isPs (A : List Int) : isPs (ints A) = true := by
  induction A with
  | nil => rfl
  | cons a r ih => simp only [ints, List.map_cons, isPs, isP, Bool.true_and]; exact ih
theorem ints_get {A : List Int} {i : Nat} {x : Int} (h : A[i]? = some x) : (ints A)[i]? = some (.int .i64 x) := by unfold ints; rw [List.getElem?_map, h]; rfl
theorem ints_VL {A : List Int} (h : A.length < 4611686018427387904) : VL (.list 1 (ints A)) A := ⟨rfl, rfl, h⟩

theorem store_row {H : Heap} {l : Nat} {A : List Int} (h : H[l]? = some (.row 1 (ints A) false)) {j : Nat} (hj : j < A.length) (x : Int) {tag : Nat} (ht : tag = A.length) :
    storeA H 1 (.eptr l 1 j 0 tag) (.int .i64 x) = some (H.set l (.row 1 (ints (A.set j x)) false), l) := by
  have hg := ints_get (show A[j]? = some A[j] by simp)
  have hs : ints (A.set j x) = (ints A).set j (.int .i64 x) := by unfold ints; rw [List.map_set]
  subst ht
  simp only [storeA, h, ints_len, cellsV, List.length_cons, List.length_nil, plainCells, plainCell, Bool.and_self, and_self, if_true, hg, putElem]
  rw [hs]

theorem index_row {call : CallT} {ev : Opd → V} {H : Heap} {low : Nat} {x i : Opd} {l : Nat} {A : List Int} {fz : Bool} (hx : ev x = .sref l 1 0 A.length A.length) (h : H[l]? = some (.row 1 (ints A) fz)) {j : Nat} (hj : natOf (ev i) = some j) (hlt : j < A.length) :
    stepC call ev H low (.indexAddr 1 x i) = some (.eptr l 1 j 0 A.length, H, low) := S_index_row hx h (ints_len A) hj hlt (Nat.le_refl _)
theorem load_row {H : Heap} {l : Nat} {A : List Int} {fz : Bool} (h : H[l]? = some (.row 1 (ints A) fz)) {j : Nat} {x : Int} (hj : A[j]? = some x) {tag : Nat} (ht : tag = A.length) : loadA H none (.eptr l 1 j 0 tag) = some (.int .i64 x) := by
  subst ht
  simp only [loadA, h, ints_len, and_self, if_true, ints_get hj, Option.bind_some]
  rfl

/-- A plain value and a row of ints are frozen. -/
theorem frz_row {H : Heap} {low l : Nat} {A : List Int} {fz : Bool} (h : H[l]? = some (.row 1 (ints A) fz)) {c : V} (hc : isP c = true) :
    freezeVs H low [c, .sref l 1 0 A.length A.length] = some ([c, .list 1 (ints A)], if fz then H else H.set l (.row 1 (ints A) true), if fz then low else min low l) := by
  have h1 : freezeV H low c = some (c, H, low) := by simp only [freezeV, freezeD, hc, if_true]
  have h2 : freezeV H low (.sref l 1 0 A.length A.length) = some (.list 1 (ints A), if fz then H else H.set l (.row 1 (ints A) true), if fz then low else min low l) := by
    simp only [freezeV, freezeD, isP, Bool.false_eq_true, if_false, h, ints_len, true_and, Nat.zero_add, Nat.le_refl, if_true, ints_isPs]
    rw [List.drop_zero, List.take_of_length_le (by rw [ints_len]; exact Nat.le_refl _)]
  simp only [freezeVs, h1, h2]

section
variable {tab : Nat → Option Fun}

/-- A call that answers flat leaves the row as it was. -/
theorem call_flat {ev : Opd → V} {H : Heap} {low i l : Nat} {A : List Int} {fz : Bool} {x y : Opd} {c v : V} (hx : ev x = c) (hc : isP c = true) (hy : ev y = .sref l 1 0 A.length A.length) (hf : ev (.func i) = .fn i [] []) (h : H[l]? = some (.row 1 (ints A) fz))
    (hw : ∀ H, callL tab (.fn i [] []) [c, .list 1 (ints A)] H = some (v, H, H.length)) (hv : flat v = true) : stepC (callL tab) ev H low (.call false (.func i) [x, y]) = some (v, H, low) := by
  rw [S_call0]
  simp only [List.map_cons, List.map_nil, hx, hy, frz_row h hc, hf, hw, hv, Nat.le_refl, and_self, if_true]

theorem call_deep {ev : Opd → V} {H : Heap} {low i l : Nat} {A : List Int} {fz : Bool} {x y : Opd} {c v : V} (hx : ev x = c) (hc : isP c = true) (hy : ev y = .sref l 1 0 A.length A.length) (hf : ev (.func i) = .fn i [] []) (h : H[l]? = some (.row 1 (ints A) fz))
    (hw : ∀ H, callL tab (.fn i [] []) [c, .list 1 (ints A)] H = some (v, H, H.length)) (hv : flat v = false) : ∃ low', stepC (callL tab) ev H low (.call false (.func i) [x, y]) = some (v, if fz then H else H.set l (.row 1 (ints A) true), low') := by
  rw [S_call0]
  simp only [List.map_cons, List.map_nil, hx, hy, frz_row h hc, hf, hw, hv, Bool.false_eq_true, false_and, if_false]
  exact ⟨_, rfl⟩
end

/-- Edges go up in a row of a graph of n elements. -/
def UpOk (n : Nat) (U : List Int) : Prop := ∀ i, i < n * n → 1 ≤ U.getD (1 + i) 0 → i / n < i % n

def cc (n : Int) : List V := con 1 0 .nil0 0 1 n

/-- The graphs of the law, while they are laid. -/
structure LF (n : Nat) (ev : V) (a b : Int) (st : St) (A U : List Int) : Prop where
  H : st.H = [.cells (cc n), .row 1 (ints A) false, .row 1 (ints U) false]
  low : st.low ≤ 3
  lA : A.length = 1 + n * n
  lU : U.length = 1 + n * n
  up : UpOk n U
  e1 : lookupE st.vE 1 = ev
  e2 : lookupE st.vE 2 = .int .u8 a
  e3 : lookupE st.vE 3 = .int .u8 b
  e9 : lookupE st.vE 9 = .int .i64 n
  e10 : lookupE st.vE 10 = .ptr 0 0
  e11 : lookupE st.vE 11 = .sref 1 1 0 A.length A.length
  e12 : lookupE st.vE 12 = .sref 2 1 0 U.length U.length

theorem LF.slots {n : Nat} {ev : V} {a b : Int} {tE vE tE' vE' : Env} {H : Heap} {low low' : Nat} {ro : Option Nat} {A U : List Int} (h : LF n ev a b ⟨tE, vE, H, low, ro⟩ A U) (hl : low' ≤ 3)
    (he : ∀ t, t = 1 ∨ t = 2 ∨ t = 3 ∨ t = 9 ∨ t = 10 ∨ t = 11 ∨ t = 12 → lookupE vE' t = lookupE vE t) : LF n ev a b ⟨tE', vE', H, low', ro⟩ A U :=
  ⟨h.H, hl, h.lA, h.lU, h.up, (he 1 (by simp)).trans h.e1, (he 2 (by simp)).trans h.e2, (he 3 (by simp)).trans h.e3, (he 9 (by simp)).trans h.e9, (he 10 (by simp)).trans h.e10, (he 11 (by simp)).trans h.e11, (he 12 (by simp)).trans h.e12⟩

theorem UpOk.set {n : Nat} {U : List Int} (h : UpOk n U) {k : Nat} (hk : k / n < k % n) (hl : U.length = 1 + n * n) : UpOk n (U.set (1 + k) 1) := by
  intro i hi h1
  by_cases e : i = k
  · subst e; exact hk
  · rw [List.getD_eq_getElem?_getD, List.getElem?_set_ne (by omega), ← List.getD_eq_getElem?_getD] at h1
    exact h i hi h1

/-- A list of bools that came in. -/
structure VB (v : V) (l : List Bool) : Prop where
  sl : slE 1 v = true
  el : el v = l.map .bool
  lt : l.length < 4611686018427387904

theorem cellsV_bool (b : Bool) : cellsV (.bool b) = [.bool b] := rfl
theorem getE_of {l : List V} {k : Nat} {v : V} (h : l[k]? = some v) : ∀ q : k < l.length, l[k]'q = v := fun q => by
  rw [List.getElem?_eq_getElem q] at h; exact Option.some.inj h

set_option maxHeartbeats 4000000 in
theorem lay_round {tab : Nat → Option Fun} {n : Nat} (hn1 : 1 ≤ n) (hn6 : n ≤ 6) {ev : V} {es : List Bool} (hv : VB ev es) {a b : Int} {k : Nat} (hk : k < n * n) {st : St} {A U : List Int} (h : LF n ev a b st A U) (e43 : lookupE st.vE 43 = .int .i64 k) :
    ∃ st' A' U', execL tab F4L0 st = some (.normal, st') ∧ LF n ev a b st' A' U' ∧ lookupE st'.vE 43 = .int .i64 k ∧ lookupE st'.vE 42 = lookupE st.vE 42 := by
  obtain ⟨tE, vE, H, low, ro⟩ := st
  have eH := h.H
  have e1 := h.e1
  have e9 := h.e9
  have e11 := h.e11
  have e12 := h.e12
  have hlow := h.low
  simp only at eH e1 e9 e11 e12 e43 hlow
  subst eH
  have hnn : n * n ≤ 36 := Nat.mul_le_mul hn6 hn6
  have hlowm : min low 3 = low := Nat.min_eq_left hlow
  have hel : (el ev).length = es.length := by rw [hv.el, List.length_map]
  have hw1 : IntKind.i64.wrap (1 + (k : Int)) = 1 + (k : Int) := by rw [wrap_small] <;> omega
  have hnat : natOf (.int .i64 (1 + (k : Int))) = some (1 + k) := by
    have : (1 + (k : Int)) = ((1 + k : Nat) : Int) := by omega
    rw [this, natOf_cast]
  have hA : ([AObj.cells (cc n), .row 1 (ints A) false, .row 1 (ints U) false] : Heap)[1]? = some (.row 1 (ints A) false) := rfl
  have hkA : 1 + k < A.length := by rw [h.lA]; omega
  have hkU : 1 + k < U.length := by rw [h.lU]; omega
  by_cases hlt : k < es.length
  · have hge : (el ev)[k]? = some (.bool es[k]) := by rw [hv.el, List.getElem?_map, List.getElem?_eq_getElem hlt]; rfl
    have hlti : (k : Int) < (es.length : Int) := by omega
    cases hb : es[k] with
    | false =>
      rw [hb] at hge
      have hge' := getE_of hge
      refine ⟨⟨[], setE (setE vE 13 (.int .i64 k)) 55 (.bool false), _, low, ro⟩, A, U, ?_, h.slots hlow fun t ht => ?_, by simp [lookE_setE, e43], by simp [lookE_setE]⟩
      · simp [F4L0, callBody, zipE, execL_seq, execL_region, execL_cond, execL_skip, execL_ret, execL_exit, execL_block, execOps, wantedA, S_mv, S_pick, S_bin, S_un, S_call0, S_call1, S_extract, S_nilEq, S_load, S_alloc, S_box, S_fieldAddr, S_field, Opd.ev, lookupE, lookE_setE, St.put, binA, unA, boolOf, freezeVs, freezeV, freezeD, isP, isPs, resultsA, resultA, finish, old, olds, flat, movedH_same, Nat.min_self, loadA, readCells, cellsV_int, cO_int, cO_bool, cO_str, cO_list, cO_sref, cO_nil0, cO_emp, cellsOk, e43, e1, S_len 1, hv.sl, hel, hlt, S_index, hge, hge', cellsV_bool, hlowm]
      · simp only [lookE_setE]
        rcases ht with rfl | rfl | rfl | rfl | rfl | rfl | rfl <;> rfl
    | true =>
      rw [hb] at hge
      have hge' := getE_of hge
      have hA' : (ints (A.set (1 + k) 1)).length = A.length := by rw [ints_len, List.length_set]
      have hsA := store_row (H := [.cells (cc n), .row 1 (ints A) false, .row 1 (ints U) false]) hA hkA 1 rfl
      have hiA : ∀ (tE' vE' : Env) (low' : Nat), lookupE tE' 56 = .sref 1 1 0 A.length A.length → lookupE tE' 58 = .int .i64 (1 + (k : Int)) → stepC (callL tab) (Opd.ev tE' vE') [.cells (cc n), .row 1 (ints A) false, .row 1 (ints U) false] low' (.indexAddr 1 (.tmp 56) (.tmp 58)) = some (.eptr 1 1 (1 + k) 0 A.length, [.cells (cc n), .row 1 (ints A) false, .row 1 (ints U) false], low') := fun tE' vE' low' q1 q2 =>
        index_row (by simp only [Opd.ev]; exact q1) hA (by simp only [Opd.ev]; rw [q2]; exact hnat) hkA
      have hU : ([AObj.cells (cc n), .row 1 (ints (A.set (1 + k) 1)) false, .row 1 (ints U) false] : Heap)[2]? = some (.row 1 (ints U) false) := rfl
      have hsU := store_row (H := [.cells (cc n), .row 1 (ints (A.set (1 + k) 1)) false, .row 1 (ints U) false]) hU hkU 1 rfl
      have hiU : ∀ (tE' vE' : Env) (low' : Nat), lookupE tE' 67 = .sref 2 1 0 U.length U.length → lookupE tE' 69 = .int .i64 (1 + (k : Int)) → stepC (callL tab) (Opd.ev tE' vE') [.cells (cc n), .row 1 (ints (A.set (1 + k) 1)) false, .row 1 (ints U) false] low' (.indexAddr 1 (.tmp 67) (.tmp 69)) = some (.eptr 2 1 (1 + k) 0 U.length, [.cells (cc n), .row 1 (ints (A.set (1 + k) 1)) false, .row 1 (ints U) false], low') := fun tE' vE' low' q1 q2 =>
        index_row (by simp only [Opd.ev]; exact q1) hU (by simp only [Opd.ev]; rw [q2]; exact hnat) hkU
      have hq : (k : Int) / (n : Int) = ((k / n : Nat) : Int) := rfl
      have hr : (k : Int).tmod (n : Int) = ((k % n : Nat) : Int) := rfl
      have hwq : IntKind.i64.wrap ((k : Int) / (n : Int)) = (k : Int) / (n : Int) := by
        have h1 : k / n ≤ k := Nat.div_le_self _ _
        rw [hq]
        generalize k / n = q at h1
        rw [wrap_small] <;> omega
      have hn0 : ¬ (n = 0) := by omega
      have hcmp : decide ((k : Int) / (n : Int) < (k : Int).tmod (n : Int)) = decide (k / n < k % n) := by
        rw [decide_eq_decide, hq, hr]; omega
      have hLA : ∀ t, t = 1 ∨ t = 2 ∨ t = 3 ∨ t = 9 ∨ t = 10 ∨ t = 11 ∨ t = 12 → ∀ b, lookupE (setE (setE (setE vE 13 (.int .i64 k)) 55 (.bool true)) 66 (.bool b)) t = lookupE vE t := fun t ht b => by
        simp only [lookE_setE]
        rcases ht with rfl | rfl | rfl | rfl | rfl | rfl | rfl <;> rfl
      cases hup : decide (k / n < k % n) with
      | true =>
        rw [hup] at hcmp
        refine ⟨⟨[], setE (setE (setE vE 13 (.int .i64 k)) 55 (.bool true)) 66 (.bool true), [.cells (cc n), .row 1 (ints (A.set (1 + k) 1)) false, .row 1 (ints (U.set (1 + k) 1)) false], min (min low 1) 2, ro⟩, A.set (1 + k) 1, U.set (1 + k) 1, ?_, ?_, by simp [lookE_setE, e43], by simp [lookE_setE]⟩
        · simp [F4L0, callBody, zipE, execL_seq, execL_region, execL_cond, execL_skip, execL_ret, execL_exit, execL_block, execOps, wantedA, S_mv, S_pick, S_bin, S_un, S_call0, S_call1, S_extract, S_nilEq, S_load, S_alloc, S_box, S_fieldAddr, S_field, Opd.ev, lookupE, lookE_setE, St.put, binA, unA, boolOf, freezeVs, freezeV, freezeD, isP, isPs, resultsA, resultA, finish, old, olds, flat, movedH_same, Nat.min_self, loadA, readCells, cellsV_int, cO_int, cO_bool, cO_str, cO_list, cO_sref, cO_nil0, cO_emp, cellsOk, e43, e1, e9, e11, e12, S_len 1, hv.sl, hel, hlt, S_index, hge, hge', cellsV_bool, hlowm, hw1, hiA, hsA, hiU, hsU, S_store, hn0, hwq, hcmp, inOrder, inOrder0, movedH]
          try omega
        · have h2 := hLA
          exact ⟨rfl, by show min (min low 1) 2 ≤ 3; omega, by rw [List.length_set, h.lA], by rw [List.length_set, h.lU], h.up.set (of_decide_eq_true hup) h.lU, (hLA 1 (by simp) _).trans e1, (hLA 2 (by simp) _).trans h.e2, (hLA 3 (by simp) _).trans h.e3, (hLA 9 (by simp) _).trans e9, (hLA 10 (by simp) _).trans h.e10, by
            rw [List.length_set]; exact (hLA 11 (by simp) _).trans e11, by
            rw [List.length_set]; exact (hLA 12 (by simp) _).trans e12⟩
      | false =>
        rw [hup] at hcmp
        refine ⟨⟨[], setE (setE (setE vE 13 (.int .i64 k)) 55 (.bool true)) 66 (.bool false), [.cells (cc n), .row 1 (ints (A.set (1 + k) 1)) false, .row 1 (ints U) false], min low 1, ro⟩, A.set (1 + k) 1, U, ?_, ?_, by simp [lookE_setE, e43], by simp [lookE_setE]⟩
        · simp [F4L0, callBody, zipE, execL_seq, execL_region, execL_cond, execL_skip, execL_ret, execL_exit, execL_block, execOps, wantedA, S_mv, S_pick, S_bin, S_un, S_call0, S_call1, S_extract, S_nilEq, S_load, S_alloc, S_box, S_fieldAddr, S_field, Opd.ev, lookupE, lookE_setE, St.put, binA, unA, boolOf, freezeVs, freezeV, freezeD, isP, isPs, resultsA, resultA, finish, old, olds, flat, movedH_same, Nat.min_self, loadA, readCells, cellsV_int, cO_int, cO_bool, cO_str, cO_list, cO_sref, cO_nil0, cO_emp, cellsOk, e43, e1, e9, e11, e12, S_len 1, hv.sl, hel, hlt, S_index, hge, hge', cellsV_bool, hlowm, hw1, hiA, hsA, S_store, hn0, hwq, hcmp, inOrder, inOrder0, movedH]
          try omega
        · exact ⟨rfl, by show min low 1 ≤ 3; omega, by rw [List.length_set, h.lA], h.lU, h.up, (hLA 1 (by simp) _).trans e1, (hLA 2 (by simp) _).trans h.e2, (hLA 3 (by simp) _).trans h.e3, (hLA 9 (by simp) _).trans e9, (hLA 10 (by simp) _).trans h.e10, by
            rw [List.length_set]; exact (hLA 11 (by simp) _).trans e11, (hLA 12 (by simp) _).trans e12⟩
  · refine ⟨⟨[], setE (setE vE 13 (.int .i64 k)) 55 (.bool false), _, low, ro⟩, A, U, ?_, h.slots hlow fun t ht => ?_, by simp [lookE_setE, e43], by simp [lookE_setE]⟩
    · simp [F4L0, callBody, zipE, execL_seq, execL_region, execL_cond, execL_skip, execL_ret, execL_exit, execL_block, execOps, wantedA, S_mv, S_pick, S_bin, S_un, S_call0, S_call1, S_extract, S_nilEq, S_load, S_alloc, S_box, S_fieldAddr, S_field, Opd.ev, lookupE, lookE_setE, St.put, binA, unA, boolOf, freezeVs, freezeV, freezeD, isP, isPs, resultsA, resultA, finish, old, olds, flat, movedH_same, Nat.min_self, loadA, readCells, cellsV_int, cO_int, cO_bool, cO_str, cO_list, cO_sref, cO_nil0, cO_emp, cellsOk, e43, e1, S_len 1, hv.sl, hel, hlt, hlowm]
    · simp only [lookE_setE]
      rcases ht with rfl | rfl | rfl | rfl | rfl | rfl | rfl <;> rfl
end Go.Abs.T12
/- The arguments of chapter 12, read. -/
namespace Go.Abs.T12
open Go Go.Abs Go.Proofs
set_option maxRecDepth 100000

section
variable {W : World} {H : Type} {enc : TypeId × Value → H}

/-- All sizes in reach. -/
def Near (P : Program) (t : TypeId) (d : DataW H) : Prop := ∀ n ∈ d.weights P t, n ≤ reachBytes

theorem near_len {t e : TypeId} {elems spare : List (DataW H)} (ht : Tryz.prog.underlying t = some (.slice e)) (hb : 1 ≤ Tryz.prog.bytesOf e) (h : Near Tryz.prog t (.slice elems spare)) : elems.length < 4611686018427387904 := by
  have h1 := h _ (weights_len ht)
  have h2 := reachBytes_lt
  have h3 : elems.length * 1 ≤ (elems.length + spare.length) * Tryz.prog.bytesOf e := Nat.mul_le_mul (by omega) hb
  omega

/-- The elements of a list whose cells are all of one kind. -/
theorem rd_all {A : Type} {P : Program} {t e : TypeId} {elems spare : List (DataW H)} {ls : List (List V)} {c : A → List V} {ok : A → Prop} (hl : ls.length = elems.length)
    (hr : ∀ (i : Nat) d l, elems[i]? = some d → ls[i]? = some l → ∃ a, l = c a ∧ ok a) : ∃ xs : List A, ls.map mkV = xs.map (fun a => mkV (c a)) ∧ xs.length = elems.length ∧ ∀ a ∈ xs, ok a := by
  have hall : ∀ l ∈ ls, ∃ a, l = c a ∧ ok a := fun l hlm => by
    obtain ⟨i, hi⟩ := List.getElem?_of_mem hlm
    have hil : i < ls.length := by
      rcases Nat.lt_or_ge i ls.length with q | q
      · exact q
      · rw [List.getElem?_eq_none q] at hi; cases hi
    obtain ⟨d, hd⟩ : ∃ d, elems[i]? = some d := ⟨_, List.getElem?_eq_getElem (by omega)⟩
    exact hr i d l hd hi
  have : ∃ xs : List A, ls.map mkV = xs.map (fun a => mkV (c a)) ∧ xs.length = ls.length ∧ ∀ a ∈ xs, ok a := by
    clear hl hr
    induction ls with
    | nil => exact ⟨[], rfl, rfl, fun a h => by cases h⟩
    | cons l ls ih =>
      obtain ⟨a, rfl, ha⟩ := hall l (by simp)
      obtain ⟨xs, h1, h2, h3⟩ := ih (fun m hm => hall m (by simp [hm]))
      refine ⟨a :: xs, by simp [h1], by simp [h2], fun u hu => ?_⟩
      rcases List.mem_cons.1 hu with rfl | hu
      · exact ha
      · exact h3 u hu
  obtain ⟨xs, h1, h2, h3⟩ := this
  exact ⟨xs, h1, by omega, h3⟩

theorem rd_vb {sv : V} {d : DataW H} (hn : Near Tryz.prog 34 d) (h : RD Tryz.prog 34 d [sv]) : ∃ l, VB sv l := by
  rcases rd_slice Tryz.underlying34 h with ⟨rfl, hv⟩ | ⟨elems, spare, ls, rfl, hv, hl, hr⟩
  · cases hv; exact ⟨[], rfl, rfl, by decide⟩
  · cases hv
    have hlen := near_len Tryz.underlying34 (of_decide_eq_true (by kernel_rfl)) hn
    rw [show Tryz.prog.cellsOf 4 = 1 by kernel_rfl]
    obtain ⟨bs, h1, h2, -⟩ := rd_all (A := Bool) (P := Tryz.prog) (t := 34) (e := 4) (spare := spare) (c := fun b => [.bool b]) (ok := fun _ => True) hl (fun i d l hd hi => by
      obtain ⟨b, -, rfl⟩ := rd_bool Tryz.underlying4 (hr i d l hd hi)
      exact ⟨b, rfl, trivial⟩)
    exact ⟨bs, rfl, h1, by omega⟩

theorem frag5 : frag Tryz.prog 8 5 = true := by kernel_rfl
theorem frag34 : frag Tryz.prog 8 34 = true := by kernel_rfl
theorem lt5 : 5 < Tryz.prog.types.size := of_decide_eq_true (by kernel_rfl)
theorem lt34 : 34 < Tryz.prog.types.size := of_decide_eq_true (by kernel_rfl)
theorem one5 {b : Nat} {v : Value} (hval : Value.okWide Tryz.prog W .any b 5 v) : v.cells.toList = [v] := by
  unfold Value.okWide at hval
  rw [Tryz.underlying5] at hval
  simp only [Cell.okWide, Tryz.underlying5] at hval
  cases v <;> first | rfl | (simp [Cell.ok, Tryz.underlying5] at hval)

/-- A byte that came in. -/
theorem open_byte {b : Nat} {v : Value} (hval : Value.okWide Tryz.prog W .any b 5 v) {d : DataW H} {p : List MemPlace} {held : Bool} (hd : DataW.Trod enc Tryz.prog W 0 (fun _ => true) held 5 v d p) : ∃ n : Nat, PRel W (G0 W).I (.int .u8 (n : Int)) v ∧ n < 256 := by
  obtain ⟨sv, h1, h2⟩ := read_arg laidOut lt5 frag5 (one5 hval) hd
  obtain ⟨n, -, hv, hw⟩ := rd_int Tryz.underlying5 h1
  cases hv
  simp [Lit.wf, IntKind.min, IntKind.max, IntKind.signed, IntKind.bits] at hw
  refine ⟨n.toNat, ?_, by omega⟩
  rw [Int.toNat_of_nonneg (by omega)]
  exact h2

/-- The bits that came in. -/
theorem open_bits {b : Nat} {v : Value} (hval : Value.okWide Tryz.prog W .any b 34 v) {d : DataW H} {p : List MemPlace} {held : Bool} (hd : DataW.Trod enc Tryz.prog W 0 (fun _ => true) held 34 v d p) (hn : Near Tryz.prog 34 d) : ∃ sv l, PRel W (G0 W).I sv v ∧ VB sv l := by
  obtain ⟨sv, h1, h2⟩ := read_arg laidOut lt34 frag34 (not_agg Tryz.underlying34 hval) hd
  obtain ⟨l, hl⟩ := rd_vb hn h1
  exact ⟨sv, l, h2, hl⟩

/-- What the sizes of a call say of one argument. -/
theorem near_of {ts : List TypeId} {ds : List (DataW H)} (h : (DataW.weightsEach Tryz.prog ts ds).all (· ≤ reachBytes) = true) {j : Nat} {t : TypeId} {d : DataW H} (ht : ts[j]? = some t) (hd : ds[j]? = some d) : Near Tryz.prog t d := fun n hn => by
  have := List.all_eq_true.1 h n (DataW.weights_mem_each ht hd n hn)
  simpa using this
end
end Go.Abs.T12
