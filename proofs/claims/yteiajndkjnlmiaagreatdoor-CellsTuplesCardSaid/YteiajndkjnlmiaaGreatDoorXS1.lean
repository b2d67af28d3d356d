/- What small functions of the program compute. -/
import Derived.Test.YteiajndkjnlmiaaGreatDoorXeSim
import Derived.Test.YteiajndkjnlmiaaGreatDoorXT09A
set_option linter.unusedVariables false
set_option linter.unusedSimpArgs false
namespace Go.Abs.T09
open Go Go.Abs

theorem within_s (n lo hi : Int) (H : Heap) : callL tab (.fn 41 [] []) [.int .i64 n, .int .i64 lo, .int .i64 hi] H = some (.bool (decide (lo ≤ n) && decide (n ≤ hi)), H, H.length) := by
  rw [callL_fn, show tab 41 = some (.code F41) from rfl]
  by_cases h : n ≥ lo
  · have h' : lo ≤ n := h
    simp [F41, callBody, zipE, execL_seq, execL_region, execL_cond, execL_skip, execL_ret, execL_exit, execL_block, execOps, wantedA, S_mv, S_pick, S_bin, S_un, S_call0, S_call1, S_extract, S_nilEq, S_load, S_alloc, S_box, Opd.ev, lookupE, setE, St.put, binA, unA, boolOf, freezeVs, freezeV, freeze1, isP, isPs, resultsA, resultA, finish, old, olds, flat, movedH_same, Nat.min_self, loadA, readCells, cellsV, h, h']
  · have h' : ¬ lo ≤ n := h
    simp [F41, callBody, zipE, execL_seq, execL_region, execL_cond, execL_skip, execL_ret, execL_exit, execL_block, execOps, wantedA, S_mv, S_pick, S_bin, S_un, S_call0, S_call1, S_extract, S_nilEq, S_load, S_alloc, S_box, Opd.ev, lookupE, setE, St.put, binA, unA, boolOf, freezeVs, freezeV, freeze1, isP, isPs, resultsA, resultA, finish, old, olds, flat, movedH_same, Nat.min_self, loadA, readCells, cellsV, h, h']

theorem sized1_s (n : Int) (H : Heap) : callL tab (.fn 60 [] []) [.int .i64 n] H = some (.bool !(decide (1 ≤ n) && decide (n ≤ 6)), H, H.length) := by
  rw [callL_fn, show tab 60 = some (.code F60) from rfl]
  simp [F60, callBody, zipE, execL_seq, execL_region, execL_cond, execL_skip, execL_ret, execL_exit, execL_block, execOps, wantedA, S_mv, S_pick, S_bin, S_un, S_call0, S_call1, S_extract, S_nilEq, S_load, S_alloc, S_box, Opd.ev, lookupE, setE, St.put, binA, unA, boolOf, freezeVs, freezeV, freeze1, isP, isPs, resultsA, resultA, finish, old, olds, flat, movedH_same, Nat.min_self, loadA, readCells, cellsV, within_s]

theorem isNaN_s (n : Int) (H : Heap) : callL tab (.fn 79 [] []) [.int .i64 n] H = some (.bool false, H, H.length) := by
  rw [callL_fn, show tab 79 = some (.code F79) from rfl]
  simp [F79, callBody, zipE, execL_seq, execL_region, execL_cond, execL_skip, execL_ret, execL_exit, execL_block, execOps, wantedA, S_mv, S_pick, S_bin, S_un, S_call0, S_call1, S_extract, S_nilEq, S_load, S_alloc, S_box, Opd.ev, lookupE, setE, St.put, binA, unA, boolOf, freezeVs, freezeV, freeze1, isP, isPs, resultsA, resultA, finish, old, olds, flat, movedH_same, Nat.min_self, loadA, readCells, cellsV]

def cmpI (a b : Int) : Int := if a < b then -1 else if a > b then 1 else 0

theorem compare_s (a b : Int) (H : Heap) : callL tab (.fn 56 [] []) [.int .i64 a, .int .i64 b] H = some (.int .i64 (cmpI a b), H, H.length) := by
  rw [callL_fn, show tab 56 = some (.code F56) from rfl]
  by_cases h1 : a < b
  · simp [F56, callBody, zipE, execL_seq, execL_region, execL_cond, execL_skip, execL_ret, execL_exit, execL_block, execOps, wantedA, S_mv, S_pick, S_bin, S_un, S_call0, S_call1, S_extract, S_nilEq, S_load, S_alloc, S_box, Opd.ev, lookupE, setE, St.put, binA, unA, boolOf, freezeVs, freezeV, freeze1, isP, isPs, resultsA, resultA, finish, old, olds, flat, movedH_same, Nat.min_self, loadA, readCells, cellsV, isNaN_s, cmpI, h1]
  · by_cases h2 : a > b
    · have h3 : b < a := h2
      simp [F56, callBody, zipE, execL_seq, execL_region, execL_cond, execL_skip, execL_ret, execL_exit, execL_block, execOps, wantedA, S_mv, S_pick, S_bin, S_un, S_call0, S_call1, S_extract, S_nilEq, S_load, S_alloc, S_box, Opd.ev, lookupE, setE, St.put, binA, unA, boolOf, freezeVs, freezeV, freeze1, isP, isPs, resultsA, resultA, finish, old, olds, flat, movedH_same, Nat.min_self, loadA, readCells, cellsV, isNaN_s, cmpI, h1, h2, h3]
    · have h3 : ¬ b < a := h2
      simp [F56, callBody, zipE, execL_seq, execL_region, execL_cond, execL_skip, execL_ret, execL_exit, execL_block, execOps, wantedA, S_mv, S_pick, S_bin, S_un, S_call0, S_call1, S_extract, S_nilEq, S_load, S_alloc, S_box, Opd.ev, lookupE, setE, St.put, binA, unA, boolOf, freezeVs, freezeV, freeze1, isP, isPs, resultsA, resultA, finish, old, olds, flat, movedH_same, Nat.min_self, loadA, readCells, cellsV, isNaN_s, cmpI, h1, h2, h3]
end Go.Abs.T09
