/- Depth first, length by length, finds the cycle that breadth first finds. Plain lists. -/
import Derived.Test.YtklgjajhccjbjaaGreatDoorP11
import Derived.Test.YtklgjajhccjbjaaGreatDoorP14
import Derived.Test.YtklgjajhccjbjaaGreatDoorP15
set_option linter.unusedVariables false
set_option linter.unusedSimpArgs false
namespace Go.Abs.Cyc
section
variable (edge : Nat → Nat → Bool) (size : Nat)

/-- The paths that go on from l by k more elements, and close. -/
def dfs : Nat → List Nat → List (List Nat)
  | 0, l => if closes edge l then [l] else []
  | k + 1, l => (nextP edge size l).flatMap (dfs k)

/-- The paths that are k elements longer. -/
def iter : Nat → List (List Nat) → List (List Nat)
  | 0, ps => ps
  | k + 1, ps => iter k (ps.flatMap (nextP edge size))

variable {edge size}

theorem dfs_iter : ∀ (k : Nat) (ps : List (List Nat)), ps.flatMap (dfs edge size k) = (iter edge size k ps).filter (closes edge)
  | 0, ps => by
    simp only [iter]
    induction ps with
    | nil => rfl
    | cons p r ih =>
      rw [List.flatMap_cons, ih, List.filter_cons]
      simp only [dfs]
      split <;> simp
  | k + 1, ps => by
    simp only [iter, dfs]
    rw [← dfs_iter k, List.flatMap_assoc]

theorem iter_nil : ∀ k, iter edge size k [] = []
  | 0 => rfl
  | k + 1 => by simp [iter, iter_nil k]

theorem iter_end : ∀ {k s : Nat} {ps : List (List Nat)}, Stage edge size s ps → size < s + k → iter edge size k ps = []
  | 0, s, ps, h, hk => stage_end h (by omega)
  | k + 1, s, ps, h, hk => iter_end (k := k) (stage_next h) (by omega)

theorem cyc_first : ∀ (n : Nat) (ps : List (List Nat)), (∀ j, j < n → (iter edge size j ps).find? (closes edge) = none) → cyc edge size n ps = none
  | 0, _, _ => rfl
  | n + 1, ps, h => by
    have h0 := h 0 (by omega)
    simp only [iter] at h0
    simp only [cyc, h0]
    split
    · rfl
    · exact cyc_first n _ fun j hj => h (j + 1) (by omega)

theorem cyc_at : ∀ (n k : Nat) (ps : List (List Nat)) (p : List Nat), k < n → (∀ j, j < k → (iter edge size j ps).find? (closes edge) = none) → (iter edge size k ps).find? (closes edge) = some p → cyc edge size n ps = some p
  | 0, k, _, _, hk, _, _ => absurd hk (by omega)
  | n + 1, 0, ps, p, _, _, h => by
    simp only [iter] at h
    simp only [cyc, h]
  | n + 1, k + 1, ps, p, hk, h, hp => by
    have h0 := h 0 (by omega)
    simp only [iter] at h0
    simp only [cyc, h0]
    split
    · rename_i e
      subst e
      simp only [iter, List.flatMap_nil, iter_nil] at hp
      cases hp
    · exact cyc_at n k _ p (by omega) (fun j hj => h (j + 1) (by omega)) hp

theorem find_head {α : Type} (q : α → Bool) : ∀ l : List α, l.find? q = (l.filter q).head?
  | [] => rfl
  | a :: r => by
    rw [List.find?_cons, List.filter_cons]
    cases h : q a with
    | true => rfl
    | false => exact find_head q r

/-- No path of length k + 1 closes, by the elements that begin them. -/
theorem none_at {k : Nat} (h : ∀ a, a < size → dfs edge size k [a] = []) : (iter edge size k (start size)).find? (closes edge) = none := by
  rw [find_head, ← dfs_iter]
  have : (start size).flatMap (dfs edge size k) = [] := by
    rw [List.flatMap_eq_nil_iff]
    intro l hl
    obtain ⟨a, ha, rfl⟩ := List.mem_map.1 hl
    exact h a (List.mem_range.1 ha)
  rw [this]; rfl

theorem some_at {k a : Nat} {p : List Nat} (ha : a < size) (h : ∀ x, x < a → dfs edge size k [x] = []) (hp : (dfs edge size k [a]).head? = some p) : (iter edge size k (start size)).find? (closes edge) = some p := by
  rw [find_head, ← dfs_iter]
  have e : start size = (List.range a).map (fun x => [x]) ++ [a] :: (List.range' (a + 1) (size - (a + 1))).map (fun x => [x]) := by
    unfold start
    have : List.range size = List.range a ++ a :: List.range' (a + 1) (size - (a + 1)) := by
      rw [List.range_eq_range', List.range_eq_range', ← List.range'_succ, show size - (a + 1) + 1 = size - a by omega]
      have := List.range'_append (s := 0) (m := a) (n := size - a) (step := 1)
      simp only [Nat.one_mul, Nat.zero_add] at this
      rw [this, show a + (size - a) = size by omega]
    rw [this, List.map_append, List.map_cons]
  rw [e, List.flatMap_append, List.flatMap_cons]
  have : ((List.range a).map fun x => [x]).flatMap (dfs edge size k) = [] := by
    rw [List.flatMap_eq_nil_iff]
    intro l hl
    obtain ⟨x, hx, rfl⟩ := List.mem_map.1 hl
    exact h x (List.mem_range.1 hx)
  rw [this, List.nil_append]
  cases hd : dfs edge size k [a] with
  | nil => rw [hd] at hp; cases hp
  | cons q r => rw [hd] at hp; simpa using hp

/-- What the search by depth has found. -/
theorem ref_some {k a : Nat} {p : List Nat} (hk : k < size) (ha : a < size) (h1 : ∀ j, j < k → ∀ x, x < size → dfs edge size j [x] = []) (h2 : ∀ x, x < a → dfs edge size k [x] = []) (hp : (dfs edge size k [a]).head? = some p) : cycle edge size = some p :=
  cyc_at _ k _ p (by omega) (fun j hj => none_at (h1 j hj)) (some_at ha h2 hp)
theorem ref_none (h : ∀ j, j < size → ∀ x, x < size → dfs edge size j [x] = []) : cycle edge size = none :=
  cyc_first _ _ fun j hj => by
    rcases Nat.lt_or_ge j size with q | q
    · exact none_at (h j q)
    · rw [iter_end stage_start (by omega)]; rfl

theorem dfs_path : ∀ {k : Nat} {l p : List Nat}, Path edge size l → p ∈ dfs edge size k l → Path edge size p ∧ p.length = l.length + k
  | 0, l, p, h, hp => by
    simp only [dfs] at hp
    split at hp
    · simp only [List.mem_singleton] at hp
      subst hp; exact ⟨h, rfl⟩
    · cases hp
  | k + 1, l, p, h, hp => by
    obtain ⟨q, hq, hp⟩ := List.mem_flatMap.1 hp
    obtain ⟨h1, h2⟩ := h.next hq
    obtain ⟨h3, h4⟩ := dfs_path h1 hp
    exact ⟨h3, by omega⟩
end
end Go.Abs.Cyc
/- ConstraintHolds: what few terms and few values are. -/
namespace Go.Abs.T12
open Go Go.Abs Go.Abs.Cyc
set_option linter.unusedSimpArgs false

/-- A term's cells: cell and factor. -/
def tmV (p : Int × Int) : V := .agg [.int .i64 p.1, .int .i64 p.2]
structure VT (v : V) (l : List (Int × Int)) : Prop where
  sl : slE 2 v = true
  el : Abs.el v = l.map tmV
  lt : l.length < 4611686018427387904

theorem VT.len {v : V} {l : List (Int × Int)} (h : VT v l) : (Abs.el v).length = l.length := by rw [h.el, List.length_map]
theorem VT.get {v : V} {l : List (Int × Int)} (h : VT v l) {k : Nat} {x : Int × Int} (hx : l[k]? = some x) : (Abs.el v)[k]? = some (tmV x) := by rw [h.el, List.getElem?_map, hx]; rfl
theorem cellsV_tm (p : Int × Int) : cellsV (tmV p) = [.int .i64 p.1, .int .i64 p.2] := rfl

def near (n : Int) : Bool := decide (-1000000 ≤ n) && decide (n ≤ 1000000)

theorem within_s {tab : Nat → Option Fun} (h39 : tab 39 = some (.code F39)) {n : Int} : callL tab (.fn 39 [] []) [.int .i64 n] [] = some (.bool (near n), [], 0) := by
  rw [callL_fn, h39]
  by_cases h : -1000000 ≤ n
  · simp [F39, callBody, zipE, execL_seq, execL_region, execL_cond, execL_skip, execL_ret, execL_exit, execL_block, execOps, wantedA, S_mv, S_pick, S_bin, S_un, S_call0, S_call1, S_extract, S_nilEq, S_load, S_alloc, S_box, S_fieldAddr, S_field, Opd.ev, lookupE, lookE_setE, St.put, binA, unA, boolOf, freezeVs, freezeV, freezeD, isP, isPs, resultsA, resultA, finish, old, olds, flat, movedH_same, Nat.min_self, loadA, readCells, cellsV_int, cO_int, cO_bool, cO_str, cO_list, cO_sref, cO_nil0, cO_emp, cellsOk, setE, near, h]
  · simp [F39, callBody, zipE, execL_seq, execL_region, execL_cond, execL_skip, execL_ret, execL_exit, execL_block, execOps, wantedA, S_mv, S_pick, S_bin, S_un, S_call0, S_call1, S_extract, S_nilEq, S_load, S_alloc, S_box, S_fieldAddr, S_field, Opd.ev, lookupE, lookE_setE, St.put, binA, unA, boolOf, freezeVs, freezeV, freezeD, isP, isPs, resultsA, resultA, finish, old, olds, flat, movedH_same, Nat.min_self, loadA, readCells, cellsV_int, cO_int, cO_bool, cO_str, cO_list, cO_sref, cO_nil0, cO_emp, cellsOk, setE, near, h]

theorem F19_for : F19 = ⟨20, .seq (.region [⟨some (2, true), .mv (.const (.bool false)), none⟩] none) (.seq (.seq (.region [⟨some (3, true), .mv (.const (.int .i64 0)), none⟩] none) (.block 0 (.loop (forBody 7 3 0 4 5 6 8 9 1 0 (.seq (.region [⟨some (10, false), .mv (.var 0), none⟩, ⟨some (11, false), .mv (.var 3), none⟩, ⟨some (12, false), .indexAddr 2 (.tmp 10) (.tmp 11), none⟩, ⟨some (13, false), .fieldAddr 1 (.tmp 12), none⟩, ⟨some (14, false), .load none (.tmp 13), none⟩, ⟨some (15, false), .call false (.func 39) [(.tmp 14)], none⟩, ⟨some (16, true), .un .not (.tmp 15), none⟩] none) (.cond (.var 16) (.seq (.region [⟨some (2, true), .mv (.const (.bool false)), none⟩] none) (.ret)) (.skip))))))) (.seq (.region [⟨some (17, false), .mv (.var 0), none⟩, ⟨some (18, false), .len 1 (.tmp 17), none⟩, ⟨some (19, false), .bin .leq (.tmp 18) (.const (.int .i64 100)), none⟩, ⟨some (2, true), .mv (.tmp 19), none⟩] none) (.ret))), [.tmp 2], false⟩ := rfl

def fewB (l : List (Int × Int)) : Bool := l.all (fun p => near p.2) && decide (l.length ≤ 100)

set_option maxHeartbeats 1000000 in
theorem fewTerms_s {tab : Nat → Option Fun} (h19 : tab 19 = some (.code F19)) (h39 : tab 39 = some (.code F39)) {tv : V} {l : List (Int × Int)} (h : VT tv l) :
    callL tab (.fn 19 [] []) [tv] [] = some (.bool (fewB l), [], 0) := by
  rw [callL_fn, h19]
  obtain ⟨x, st', hl, hq⟩ := for_loop (tab := tab) (b := 7) (i := 3) (xs := 0) (t1 := 4) (t2 := 5) (t3 := 6) (t4 := 8) (t5 := 9) (blk := 1) (ex := 0) (es := 2) (body := .seq (.region [⟨some (10, false), .mv (.var 0), none⟩, ⟨some (11, false), .mv (.var 3), none⟩, ⟨some (12, false), .indexAddr 2 (.tmp 10) (.tmp 11), none⟩, ⟨some (13, false), .fieldAddr 1 (.tmp 12), none⟩, ⟨some (14, false), .load none (.tmp 13), none⟩, ⟨some (15, false), .call false (.func 39) [(.tmp 14)], none⟩, ⟨some (16, true), .un .not (.tmp 15), none⟩] none) (.cond (.var 16) (.seq (.region [⟨some (2, true), .mv (.const (.bool false)), none⟩] none) (.ret)) (.skip))) (N := l.length)
    (I := fun k st => st.H = [] ∧ st.low = 0 ∧ lookupE st.vE 0 = tv ∧ lookupE st.vE 3 = .int .i64 k ∧ (l.take k).all (fun p => near p.2) = true)
    (Q := fun x st => st.H = [] ∧ st.low = 0 ∧ lookupE st.vE 0 = tv ∧ ((x = .exit 0 ∧ l.all (fun p => near p.2) = true) ∨ (x = .ret ∧ l.all (fun p => near p.2) = false ∧ lookupE st.vE 2 = .bool false)))
    h.lt (by decide) (by decide) (by decide) (fun k st hI => ⟨hI.2.2.2.1, by rw [hI.2.2.1]; exact h.sl, by rw [hI.2.2.1]; exact h.len, by rw [hI.1, hI.2.1]; exact Nat.le_refl _⟩)
    (fun k st hk hI => by
      obtain ⟨e1, e2, l0, l3, hn⟩ := hI
      obtain ⟨tE, vE, H, low, ro⟩ := st
      simp only at e1 e2 l0 l3
      subst e1; subst e2
      have hx : l[k]? = some l[k] := by simp
      have hg := h.get hx
      have hw := within_s h39 (n := l[k].2)
      cases hb : near l[k].2 with
      | false =>
        rw [hb] at hw
        refine ⟨.ret, _, by simp [callBody, zipE, execL_seq, execL_region, execL_cond, execL_skip, execL_ret, execL_exit, execL_block, execOps, wantedA, S_mv, S_pick, S_bin, S_un, S_call0, S_call1, S_extract, S_nilEq, S_load, S_alloc, S_box, S_fieldAddr, S_field, Opd.ev, lookupE, lookE_setE, St.put, binA, unA, boolOf, freezeVs, freezeV, freezeD, isP, isPs, resultsA, resultA, finish, old, olds, flat, movedH_same, Nat.min_self, loadA, readCells, cellsV_int, cO_int, cO_bool, cO_str, cO_list, cO_sref, cO_nil0, cO_emp, cellsOk, S_index, h.sl, hg, l0, l3, cellsV_tm, hw]; rfl, ?_⟩
        rw [if_neg (by simp)]
        refine ⟨rfl, rfl, by simp [lookE_setE, l0], .inr ⟨rfl, ?_, by simp [lookE_setE]⟩⟩
        rw [List.all_eq_false]
        exact ⟨l[k], List.getElem_mem hk, by simp [hb]⟩
      | true =>
        rw [hb] at hw
        refine ⟨.normal, _, by simp [callBody, zipE, execL_seq, execL_region, execL_cond, execL_skip, execL_ret, execL_exit, execL_block, execOps, wantedA, S_mv, S_pick, S_bin, S_un, S_call0, S_call1, S_extract, S_nilEq, S_load, S_alloc, S_box, S_fieldAddr, S_field, Opd.ev, lookupE, lookE_setE, St.put, binA, unA, boolOf, freezeVs, freezeV, freezeD, isP, isPs, resultsA, resultA, finish, old, olds, flat, movedH_same, Nat.min_self, loadA, readCells, cellsV_int, cO_int, cO_bool, cO_str, cO_list, cO_sref, cO_nil0, cO_emp, cellsOk, S_index, h.sl, hg, l0, l3, cellsV_tm, hw]; rfl, ?_⟩
        rw [if_pos (.inl rfl)]
        refine ⟨by simp [lookE_setE, l3], Nat.le_refl _, rfl, rfl, by simp [lookE_setE, l0], by simp [lookE_setE], ?_⟩
        rw [List.take_add_one, hx, List.all_append, hn]
        simp [hb])
    (fun st hI => by
      obtain ⟨e1, e2, l0, -, hn⟩ := hI
      rw [List.take_length] at hn
      exact ⟨e1, e2, by simp [lookE_setE, l0], .inl ⟨rfl, hn⟩⟩)
    l.length 0 ⟨[], [(0, tv), (2, .bool false), (3, .int .i64 0)], [], 0, none⟩ (by omega) ⟨rfl, rfl, rfl, rfl, by simp⟩
  obtain ⟨q1, q2, q0, q3⟩ := hq
  rw [F19_for]
  rcases q3 with ⟨rfl, hn⟩ | ⟨rfl, hm, hk⟩
  · simp [callBody, zipE, execL_seq, execL_region, execL_cond, execL_skip, execL_ret, execL_exit, execL_block, execOps, wantedA, S_mv, S_pick, S_bin, S_un, S_call0, S_call1, S_extract, S_nilEq, S_load, S_alloc, S_box, S_fieldAddr, S_field, Opd.ev, lookupE, lookE_setE, St.put, binA, unA, boolOf, freezeVs, freezeV, freezeD, isP, isPs, resultsA, resultA, finish, old, olds, flat, movedH_same, Nat.min_self, loadA, readCells, cellsV_int, cO_int, cO_bool, cO_str, cO_list, cO_sref, cO_nil0, cO_emp, cellsOk, setE, hl, q1, q2, q0, S_len 2, h.sl, h.len, fewB, hn]
    omega
  · simp [callBody, zipE, execL_seq, execL_region, execL_cond, execL_skip, execL_ret, execL_exit, execL_block, execOps, wantedA, S_mv, S_pick, S_bin, S_un, S_call0, S_call1, S_extract, S_nilEq, S_load, S_alloc, S_box, S_fieldAddr, S_field, Opd.ev, lookupE, lookE_setE, St.put, binA, unA, boolOf, freezeVs, freezeV, freezeD, isP, isPs, resultsA, resultA, finish, old, olds, flat, movedH_same, Nat.min_self, loadA, readCells, cellsV_int, cO_int, cO_bool, cO_str, cO_list, cO_sref, cO_nil0, cO_emp, cellsOk, setE, hl, q1, q2, q0, hk, fewB, hm]

def BODY7 : ACode := .seq (.region [⟨some (10, false), .mv (.var 0), none⟩, ⟨some (11, false), .mv (.var 3), none⟩, ⟨some (12, false), .indexAddr 1 (.tmp 10) (.tmp 11), none⟩, ⟨some (13, false), .load none (.tmp 12), none⟩, ⟨some (14, false), .bin .lss (.tmp 13) (.const (.int .i64 (-1000000))), none⟩, ⟨some (15, false), .mv (.tmp 14), none⟩, ⟨some (16, false), .mv (.var 0), some ((.tmp 15), false)⟩, ⟨some (17, false), .mv (.var 3), some ((.tmp 15), false)⟩, ⟨some (18, false), .indexAddr 1 (.tmp 16) (.tmp 17), some ((.tmp 15), false)⟩, ⟨some (19, false), .load none (.tmp 18), some ((.tmp 15), false)⟩, ⟨some (20, false), .bin .gtr (.tmp 19) (.const (.int .i64 1000000)), some ((.tmp 15), false)⟩, ⟨some (21, true), .pick (.tmp 15) (.const (.bool true)) (.tmp 20), none⟩] none) (.cond (.var 21) (.seq (.region [⟨some (2, true), .mv (.const (.bool false)), none⟩] none) (.ret)) (.skip))
theorem BODY7_for : F7L0 = forBody 7 3 0 4 5 6 8 9 1 0 BODY7 := rfl

theorem F7_for : F7 = ⟨25, .seq (.region [⟨some (2, true), .mv (.const (.bool false)), none⟩] none) (.seq (.seq (.region [⟨some (3, true), .mv (.const (.int .i64 0)), none⟩] none) (.block 0 (.loop (forBody 7 3 0 4 5 6 8 9 1 0 BODY7)))) (.seq (.region [⟨some (22, false), .mv (.var 0), none⟩, ⟨some (23, false), .len 1 (.tmp 22), none⟩, ⟨some (24, false), .bin .leq (.tmp 23) (.const (.int .i64 128)), none⟩, ⟨some (2, true), .mv (.tmp 24), none⟩] none) (.ret))), [.tmp 2], false⟩ := rfl

def fewV (l : List Int) : Bool := l.all near && decide (l.length ≤ 128)

set_option maxHeartbeats 1000000 in
theorem fewValues_s {tab : Nat → Option Fun} (h7 : tab 7 = some (.code F7)) {sv : V} {l : List Int} (h : VL sv l) : callL tab (.fn 7 [] []) [sv] [] = some (.bool (fewV l), [], 0) := by
  rw [callL_fn, h7]
  obtain ⟨x, st', hl, hq⟩ := for_loop (tab := tab) (b := 7) (i := 3) (xs := 0) (t1 := 4) (t2 := 5) (t3 := 6) (t4 := 8) (t5 := 9) (blk := 1) (ex := 0) (es := 1) (body := BODY7) (N := l.length)
    (I := fun k st => st.H = [] ∧ st.low = 0 ∧ lookupE st.vE 0 = sv ∧ lookupE st.vE 3 = .int .i64 k ∧ (l.take k).all near = true)
    (Q := fun x st => st.H = [] ∧ st.low = 0 ∧ lookupE st.vE 0 = sv ∧ ((x = .exit 0 ∧ l.all near = true) ∨ (x = .ret ∧ l.all near = false ∧ lookupE st.vE 2 = .bool false)))
    h.lt (by decide) (by decide) (by decide) (fun k st hI => ⟨hI.2.2.2.1, by rw [hI.2.2.1]; exact h.sl, by rw [hI.2.2.1]; exact h.len, by rw [hI.1, hI.2.1]; exact Nat.le_refl _⟩)
    (fun k st hk hI => by
      obtain ⟨e1, e2, l0, l3, hn⟩ := hI
      obtain ⟨tE, vE, H, low, ro⟩ := st
      simp only at e1 e2 l0 l3
      subst e1; subst e2
      have hx : l[k]? = some l[k] := by simp
      have hg := h.get hx
      cases hb : near l[k] with
      | false =>
        have hc : l[k] < -1000000 ∨ (¬ l[k] < -1000000 ∧ 1000000 < l[k]) := by
          simp only [near, Bool.and_eq_false_iff, decide_eq_false_iff_not] at hb
          omega
        have hgoal : (lookupE (setE (setE (setE vE 7 (.bool true)) 21 (.bool true)) 2 (.bool false)) 0 = sv) ∧ l.all near = false := by
          refine ⟨by simp [lookE_setE, l0], ?_⟩
          rw [List.all_eq_false]
          exact ⟨l[k], List.getElem_mem hk, by simp [hb]⟩
        refine ⟨.ret, ⟨[], setE (setE (setE vE 7 (.bool true)) 21 (.bool true)) 2 (.bool false), [], 0, ro⟩, ?_, ?_⟩
        · rcases hc with hc | ⟨hc, hd⟩
          · simp [BODY7, callBody, zipE, execL_seq, execL_region, execL_cond, execL_skip, execL_ret, execL_exit, execL_block, execOps, wantedA, S_mv, S_pick, S_bin, S_un, S_call0, S_call1, S_extract, S_nilEq, S_load, S_alloc, S_box, S_fieldAddr, S_field, Opd.ev, lookupE, lookE_setE, St.put, binA, unA, boolOf, freezeVs, freezeV, freezeD, isP, isPs, resultsA, resultA, finish, old, olds, flat, movedH_same, Nat.min_self, loadA, readCells, cellsV_int, cO_int, cO_bool, cO_str, cO_list, cO_sref, cO_nil0, cO_emp, cellsOk, S_index, h.sl, hg, l0, l3, hc]
          · simp [BODY7, callBody, zipE, execL_seq, execL_region, execL_cond, execL_skip, execL_ret, execL_exit, execL_block, execOps, wantedA, S_mv, S_pick, S_bin, S_un, S_call0, S_call1, S_extract, S_nilEq, S_load, S_alloc, S_box, S_fieldAddr, S_field, Opd.ev, lookupE, lookE_setE, St.put, binA, unA, boolOf, freezeVs, freezeV, freezeD, isP, isPs, resultsA, resultA, finish, old, olds, flat, movedH_same, Nat.min_self, loadA, readCells, cellsV_int, cO_int, cO_bool, cO_str, cO_list, cO_sref, cO_nil0, cO_emp, cellsOk, S_index, h.sl, hg, l0, l3, hc, hd]
        · rw [if_neg (by simp)]
          exact ⟨rfl, rfl, hgoal.1, .inr ⟨rfl, hgoal.2, by simp [lookE_setE]⟩⟩
      | true =>
        have hc : ¬ l[k] < -1000000 ∧ ¬ 1000000 < l[k] := by
          simp only [near, Bool.and_eq_true, decide_eq_true_eq] at hb
          omega
        refine ⟨.normal, ⟨[], setE (setE vE 7 (.bool true)) 21 (.bool false), [], 0, ro⟩, by simp [BODY7, callBody, zipE, execL_seq, execL_region, execL_cond, execL_skip, execL_ret, execL_exit, execL_block, execOps, wantedA, S_mv, S_pick, S_bin, S_un, S_call0, S_call1, S_extract, S_nilEq, S_load, S_alloc, S_box, S_fieldAddr, S_field, Opd.ev, lookupE, lookE_setE, St.put, binA, unA, boolOf, freezeVs, freezeV, freezeD, isP, isPs, resultsA, resultA, finish, old, olds, flat, movedH_same, Nat.min_self, loadA, readCells, cellsV_int, cO_int, cO_bool, cO_str, cO_list, cO_sref, cO_nil0, cO_emp, cellsOk, S_index, h.sl, hg, l0, l3, hc.1, hc.2], ?_⟩
        rw [if_pos (.inl rfl)]
        refine ⟨by simp [lookE_setE, l3], Nat.le_refl _, rfl, rfl, by simp [lookE_setE, l0], by simp [lookE_setE], ?_⟩
        rw [List.take_add_one, hx, List.all_append, hn]
        simp [hb])
    (fun st hI => by
      obtain ⟨e1, e2, l0, -, hn⟩ := hI
      rw [List.take_length] at hn
      exact ⟨e1, e2, by simp [lookE_setE, l0], .inl ⟨rfl, hn⟩⟩)
    l.length 0 ⟨[], [(0, sv), (2, .bool false), (3, .int .i64 0)], [], 0, none⟩ (by omega) ⟨rfl, rfl, rfl, rfl, by simp⟩
  obtain ⟨q1, q2, q0, q3⟩ := hq
  rw [F7_for]
  rcases q3 with ⟨rfl, hn⟩ | ⟨rfl, hm, hk⟩
  · simp [callBody, zipE, execL_seq, execL_region, execL_cond, execL_skip, execL_ret, execL_exit, execL_block, execOps, wantedA, S_mv, S_pick, S_bin, S_un, S_call0, S_call1, S_extract, S_nilEq, S_load, S_alloc, S_box, S_fieldAddr, S_field, Opd.ev, lookupE, lookE_setE, St.put, binA, unA, boolOf, freezeVs, freezeV, freezeD, isP, isPs, resultsA, resultA, finish, old, olds, flat, movedH_same, Nat.min_self, loadA, readCells, cellsV_int, cO_int, cO_bool, cO_str, cO_list, cO_sref, cO_nil0, cO_emp, cellsOk, setE, hl, q1, q2, q0, S_len 1, h.sl, h.len, fewV, hn]
    omega
  · simp [callBody, zipE, execL_seq, execL_region, execL_cond, execL_skip, execL_ret, execL_exit, execL_block, execOps, wantedA, S_mv, S_pick, S_bin, S_un, S_call0, S_call1, S_extract, S_nilEq, S_load, S_alloc, S_box, S_fieldAddr, S_field, Opd.ev, lookupE, lookE_setE, St.put, binA, unA, boolOf, freezeVs, freezeV, freezeD, isP, isPs, resultsA, resultA, finish, old, olds, flat, movedH_same, Nat.min_self, loadA, readCells, cellsV_int, cO_int, cO_bool, cO_str, cO_list, cO_sref, cO_nil0, cO_emp, cellsOk, setE, hl, q1, q2, q0, hk, fewV, hm]
end Go.Abs.T12
