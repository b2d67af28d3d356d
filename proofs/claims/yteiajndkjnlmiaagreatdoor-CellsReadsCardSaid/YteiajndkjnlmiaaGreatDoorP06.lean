/- The keywords, and what lexer.tokens hands out. -/
import Derived.Test.YteiajndkjnlmiaaGreatDoorP05
import Derived.KernelRfl
import Derived.Test.YteiajndkjnlmiaaGreatDoorP02
set_option linter.unusedVariables false
set_option linter.unusedSimpArgs false
namespace Go.Abs.T09
open Go Go.Abs

def kwText : List UInt8 := [115, 111, 114, 116, 32, 114, 101, 108, 97, 116, 105, 111, 110, 32, 99, 111, 117, 110, 116, 101, 114, 32, 115, 101, 116, 32, 114, 101, 103, 105, 115, 116, 101, 114, 32, 105, 110, 118, 97, 114, 105, 97, 110, 116, 32, 111, 112, 101, 114, 97, 116, 105, 111, 110, 32, 107, 101, 121, 32, 114, 101, 102, 101, 114, 101, 110, 99, 101, 32, 116, 111, 32, 99, 111, 117, 110, 116, 32, 97, 99, 121, 99, 108, 105, 99, 32, 97, 108, 108, 32, 115, 117, 109, 32, 105, 110, 32, 97, 100, 100, 119, 105, 110, 115, 32, 114, 101, 109, 111, 118, 101, 119, 105, 110, 115, 32, 108, 97, 115, 116, 32, 109, 117, 108, 116, 105, 32, 104, 105, 100, 101, 32, 111, 114, 100, 101, 114, 101, 100, 32, 114, 101, 113, 117, 105, 114, 101, 32, 104, 111, 108, 100, 32, 105, 110, 115, 101, 114, 116, 32, 100, 101, 108, 101, 116, 101, 32, 97, 100, 100, 32, 102, 114, 111, 109, 32, 112, 117, 116, 32, 100, 114, 111, 112, 32, 97, 115, 115, 105, 103, 110, 32, 102, 111, 114, 32, 119, 104, 101, 114, 101, 32, 97, 110, 100, 32, 111, 114, 32, 110, 111, 116]
def kw : List (List UInt8) := Lib.fields kwText
def kwE (l : List (List UInt8)) (k : Nat) : List (V × V) := (l.take k).foldl (fun e s => setEnt 1 (.str s) (.bool true) e) []
def kwEnts : List (V × V) := kw.map fun s => (V.str s, V.bool true)
theorem kw_length : kw.length = 35 := by kernel_rfl
theorem kwE_all : kwE kw 35 = kwEnts := by kernel_rfl

theorem ext86 (H : Heap) : callL tab (.fn 86 [] []) [.str kwText] H = some (.list 1 (kw.map .str), H, H.length) := by
  have e : xFields [.str kwText] = some (.list 1 (kw.map .str)) := by kernel_rfl
  rw [callL_fn, show tab 86 = some (.ext xFields) from rfl]
  simp [e, isPs, isP]

def strKeys (es : List (V × V)) : Prop := ∀ p ∈ es, ∃ t, p.1 = V.str t
theorem strKeys_set {es : List (V × V)} (h : strKeys es) (s : List UInt8) (v : V) : strKeys (setEnt 1 (.str s) v es) := by
  induction es with
  | nil => intro p hp; simp [setEnt] at hp; exact ⟨s, by rw [hp]⟩
  | cons q es ih =>
    obtain ⟨t, ht⟩ := h q (by simp)
    obtain ⟨a, b⟩ := q
    simp only at ht; subst ht
    simp only [setEnt, eqK]
    split
    · intro p hp
      rcases List.mem_cons.1 hp with rfl | hp
      · exact ⟨s, rfl⟩
      · exact h p (by simp [hp])
    · intro p hp
      rcases List.mem_cons.1 hp with rfl | hp
      · exact ⟨t, rfl⟩
      · exact ih (fun p hp => h p (by simp [hp])) p hp
theorem strKeys_find {es : List (V × V)} (h : strKeys es) (s : List UInt8) : ∃ o, findEnt 1 (.str s) es = some o := by
  induction es with
  | nil => exact ⟨none, rfl⟩
  | cons q es ih =>
    obtain ⟨t, ht⟩ := h q (by simp)
    obtain ⟨a, b⟩ := q
    simp only at ht; subst ht
    obtain ⟨o, ho⟩ := ih (fun p hp => h p (by simp [hp]))
    simp only [findEnt, eqK]
    cases (s == t) with
    | true => exact ⟨some b, rfl⟩
    | false => exact ⟨o, ho⟩
theorem strKeys_kwE (l : List (List UInt8)) (k : Nat) : strKeys (kwE l k) := by
  unfold kwE
  generalize l.take k = m
  have : ∀ (m : List (List UInt8)) e, strKeys e → strKeys (m.foldl (fun e s => setEnt 1 (.str s) (.bool true) e) e) := by
    intro m
    induction m with
    | nil => intro e h; exact h
    | cons a m ih => intro e h; exact ih _ (strKeys_set h _ _)
  exact this m [] (fun p hp => by cases hp)
theorem kwE_succ {l : List (List UInt8)} {k : Nat} {s : List UInt8} (h : l[k]? = some s) : kwE l (k + 1) = setEnt 1 (.str s) (.bool true) (kwE l k) := by
  unfold kwE
  rw [List.take_add_one, h]
  simp
theorem find_kw (s : List UInt8) : findEnt 1 (.str s) kwEnts = some (if kw.contains s then some (.bool true) else none) := by
  unfold kwEnts
  generalize kw = l
  induction l with
  | nil => rfl
  | cons a l ih =>
    simp only [List.map_cons, findEnt, eqK, List.contains_cons]
    cases hsa : (s == a) with
    | true => rfl
    | false => simp [ih]

theorem set_last (H : Heap) (x y : AObj) : (H ++ [x]).set H.length y = H ++ [y] := by simp
theorem get_last (H : Heap) (x : AObj) : (H ++ [x])[H.length]? = some x := by simp
theorem get_app {H : Heap} {p : Nat} {o : AObj} (h : H[p]? = some o) (t : Heap) : (H ++ t)[p]? = some o := by
  have hp : p < H.length := by
    rcases Nat.lt_or_ge p H.length with h1 | h1
    · exact h1
    · rw [List.getElem?_eq_none h1] at h; cases h
  rw [List.getElem?_append_left hp, h]

set_option maxHeartbeats 1000000 in
theorem keywords_s (H : Heap) : callL tab (.fn 67 [] []) [] H = some (.map H.length, H ++ [.map kwEnts], H.length) := by
  have key := range_loop (tab := tab) (b := 8) (n := 6) (i := 7) (t := 13) (blk := 1) (ex := 0) (body := F67L0)
    (I := fun k st => st.H = H ++ [.map (kwE kw k)] ∧ st.low = H.length ∧ lookupE st.vE 1 = .map H.length ∧ lookupE st.vE 5 = .list 1 (kw.map .str) ∧ lookupE st.vE 7 = .int .i64 k ∧ lookupE st.vE 6 = .int .i64 (35 : Nat))
    (Q := fun x st => st.H = H ++ [.map kwEnts] ∧ st.low = H.length ∧ x = .exit 0 ∧ lookupE st.vE 1 = .map H.length)
    (N := 35) (by decide) (by decide) (by decide)
    (fun k st h => ⟨h.2.2.2.2.1, h.2.2.2.2.2, by rw [h.1, h.2.1]; simp⟩)
    (by
      rintro k st hk ⟨h1, h2, h3, h4, h5, h6⟩
      obtain ⟨w, hn⟩ : ∃ w, kw[k]? = some w := ⟨_, List.getElem?_eq_getElem (by rw [kw_length]; exact hk)⟩
      have hsl : slE 1 (V.list 1 (kw.map .str)) = true := rfl
      have hg : (el (V.list 1 (kw.map .str)))[k]? = some (.str w) := by simp [el, hn]
      have hct : cellsV (V.str w) = [V.str w] := rfl
      obtain ⟨o, ho⟩ := strKeys_find (strKeys_kwE kw k) w
      refine ⟨.normal, _, by simp [F67L0, callBody, zipE, execL_seq, execL_region, execL_cond, execL_skip, execL_ret, execL_exit, execL_block, execOps, wantedA, S_mv, S_pick, S_bin, S_un, S_call0, S_call1, S_extract, S_nilEq, S_load, S_alloc, S_box, Opd.ev, lookupE, lookE_setE, St.put, binA, unA, boolOf, freezeVs, freezeV, freeze1, isP, isPs, resultsA, resultA, finish, old, olds, flat, movedH_same, Nat.min_self, loadA, readCells, cellsV, h1, h2, h3, h4, h5, h6, S_index, hsl, hg, S_mapUpd, step, ho, isU, -List.getElem?_map]; rfl, ?_⟩
      simp only [true_or, if_true, lookE_setE, h1, h2]
      refine ⟨by simp [h5], by simp, by simp [kwE_succ hn], by simp, by simp [h3], by simp [h4], by simp, by simp [h6]⟩)
    (by
      rintro st ⟨h1, h2, h3, h4, h5, h6⟩
      exact ⟨by rw [h1, kwE_all], h2, rfl, by simp [lookE_setE, h3]⟩)
  obtain ⟨x, st', h1, h2, h3, rfl, h4⟩ := key 35 0 { tE := [], vE := [(0, .nilm), (1, .map H.length), (5, .list 1 (kw.map .str)), (6, .int .i64 35), (7, .int .i64 0)], H := H ++ [.map []], low := H.length } (by omega)
    ⟨rfl, rfl, rfl, rfl, rfl, rfl⟩
  have hx := ext86 (H ++ [.map []])
  simp only [kwText] at hx
  have hlen : (el (V.list 1 (kw.map .str))).length = 35 := by simp [el, kw_length]
  have hsl : slE 1 (V.list 1 (kw.map .str)) = true := rfl
  rw [callL_fn, show tab 67 = some (.code F67) from rfl]
  simp [F67, callBody, zipE, execL_seq, execL_region, execL_cond, execL_skip, execL_ret, execL_exit, execL_block, execOps, wantedA, S_mv, S_pick, S_bin, S_un, S_call0, S_call1, S_extract, S_nilEq, S_load, S_alloc, S_box, Opd.ev, lookupE, setE, St.put, binA, unA, boolOf, freezeVs, freezeV, freeze1, isP, isPs, resultsA, resultA, finish, old, olds, flat, movedH_same, Nat.min_self, loadA, readCells, cellsV, S_mkMap, S_len 1, hsl, hlen, hx, h1, h2, h3, h4, lookE_setE, movedH]

set_option maxHeartbeats 1000000 in
theorem tokens_s (s : List UInt8) (H : Heap) : callL tab (.fn 49 [] []) [.str s] H = some (.fn 68 [] [.ptr H.length 0, .ptr (H.length + 2) 0], H ++ [.cells [.str s], .map kwEnts, .cells [.map (H.length + 1)]], H.length) := by
  have hk := keywords_s (H ++ [.cells [.str s]])
  simp only [List.length_append, List.length_cons, List.length_nil, Nat.zero_add, List.append_assoc, List.cons_append, List.nil_append] at hk
  rw [callL_fn, show tab 49 = some (.code F49) from rfl]
  simp [F49, callBody, zipE, execL_seq, execL_region, execL_cond, execL_skip, execL_ret, execL_exit, execL_block, execOps, wantedA, S_mv, S_pick, S_bin, S_un, S_call0, S_call1, S_extract, S_nilEq, S_load, S_alloc, S_box, Opd.ev, lookupE, setE, St.put, binA, unA, boolOf, freezeVs, freezeV, freeze1, isP, isPs, resultsA, resultA, finish, old, olds, flat, movedH_same, Nat.min_self, loadA, readCells, cellsV, S_mkFn, cellsOk, cellOk, hk, S_store, storeA, setCells, movedH]
end Go.Abs.T09
/- One token. -/
namespace Go.Abs.T09
open Go Go.Abs

def F68K : ACode := .seq (.region [⟨some (48, false), .mv (.var 6), none⟩, ⟨some (49, false), .bin .eql (.tmp 48) (.const (.str [])), none⟩, ⟨some (47, true), .mv (.tmp 49), none⟩] none) (.cond (.var 47) (.skip) (.seq (.region [⟨some (51, false), .mv (.var 6), none⟩, ⟨some (52, false), .indexS (.tmp 51) (.const (.int .i64 0)), none⟩, ⟨some (53, false), .call false (.func 70) [(.tmp 52)], none⟩, ⟨some (50, true), .mv (.tmp 53), none⟩] none) (.cond (.var 50) (.seq (.region [⟨some (54, false), .mv (.var 6), none⟩, ⟨some (55, false), .call false (.func 71) [(.tmp 54), (.func 72)], none⟩, ⟨some (7, true), .mv (.tmp 55), none⟩, ⟨some (56, false), .fieldAddr 0 (.var 5), none⟩, ⟨none, .store 1 (.tmp 56) (.const (.int .i64 1)), none⟩] none) (.seq (.region [⟨some (57, false), .load none (.var 2), none⟩, ⟨some (58, false), .mv (.var 6), none⟩, ⟨some (59, false), .mv (.var 7), none⟩, ⟨some (60, false), .sliceS (.tmp 58) none (some (.tmp 59)), none⟩, ⟨some (61, true), .lookup 1 (.bool false) (.tmp 57) (.tmp 60) false, none⟩] (some [0, 0, 0, 6, 15])) (.cond (.var 61) (.region [⟨some (62, false), .fieldAddr 0 (.var 5), none⟩, ⟨none, .store 1 (.tmp 62) (.const (.int .i64 2)), none⟩] none) (.skip)))) (.seq (.region [⟨some (64, false), .mv (.var 6), none⟩, ⟨some (65, false), .indexS (.tmp 64) (.const (.int .i64 0)), none⟩, ⟨some (66, false), .call false (.func 73) [(.tmp 65)], none⟩, ⟨some (63, true), .mv (.tmp 66), none⟩] none) (.cond (.var 63) (.region [⟨some (67, false), .mv (.var 6), none⟩, ⟨some (68, false), .call false (.func 71) [(.tmp 67), (.func 73)], none⟩, ⟨some (7, true), .mv (.tmp 68), none⟩, ⟨some (69, false), .fieldAddr 0 (.var 5), none⟩, ⟨none, .store 1 (.tmp 69) (.const (.int .i64 3)), none⟩] none) (.seq (.region [⟨some (71, false), .mv (.var 6), none⟩, ⟨some (72, false), .call false (.func 74) [(.tmp 71)], none⟩, ⟨some (73, false), .bin .gtr (.tmp 72) (.const (.int .i64 0)), none⟩, ⟨some (70, true), .mv (.tmp 73), none⟩] none) (.cond (.var 70) (.region [⟨some (74, false), .mv (.var 6), none⟩, ⟨some (75, false), .call false (.func 74) [(.tmp 74)], none⟩, ⟨some (7, true), .mv (.tmp 75), none⟩, ⟨some (76, false), .fieldAddr 0 (.var 5), none⟩, ⟨none, .store 1 (.tmp 76) (.const (.int .i64 4)), none⟩] none) (.seq (.region [⟨some (20, false), .fieldAddr 0 (.var 5), none⟩, ⟨none, .store 1 (.tmp 20) (.const (.int .i64 5)), none⟩] none) (.seq (.region [⟨some (7, true), .mv (.const (.int .i64 1)), none⟩] none) (.block 3 (.loop F68L0)))))))))))
theorem F68L1_eq : F68L1 = .block 1 (.seq (.region [⟨some (8, false), .mv (.var 4), none⟩, ⟨some (9, false), .mv (.var 4), none⟩, ⟨some (10, false), .load none (.var 1), none⟩, ⟨some (11, false), .mv (.var 4), none⟩, ⟨some (12, false), .sliceS (.tmp 10) (some (.tmp 11)) none, none⟩, ⟨some (13, false), .call false (.func 69) [(.tmp 12)], none⟩, ⟨some (14, false), .bin .add (.tmp 9) (.tmp 13), none⟩, ⟨some (15, false), .build [.int .i64 0, .int .i64 0, .int .i64 0, .int .i64 0] [(1, 1, (.tmp 8)), (2, 1, (.tmp 14))], none⟩, ⟨some (5, true), .alloc [.int .i64 0, .int .i64 0, .int .i64 0, .int .i64 0], none⟩, ⟨none, .store 4 (.var 5) (.tmp 15), none⟩] none) (.seq (.region [⟨some (16, false), .load none (.var 1), none⟩, ⟨some (17, false), .fieldAddr 2 (.var 5), none⟩, ⟨some (18, false), .load none (.tmp 17), none⟩, ⟨some (19, false), .sliceS (.tmp 16) (some (.tmp 18)) none, none⟩, ⟨some (6, true), .mv (.tmp 19), none⟩] none) (.seq (.region [⟨some (7, true), .mv (.const (.int .i64 0)), none⟩] none) (.seq (.block 2 F68K) (.seq (.region [⟨some (77, false), .fieldAddr 2 (.var 5), none⟩, ⟨some (78, false), .load none (.tmp 77), none⟩, ⟨some (79, false), .mv (.var 7), none⟩, ⟨some (80, false), .bin .add (.tmp 78) (.tmp 79), none⟩, ⟨some (81, false), .fieldAddr 3 (.var 5), none⟩, ⟨none, .store 1 (.tmp 81) (.tmp 80), none⟩] none) (.seq (.region [⟨some (82, false), .fieldAddr 3 (.var 5), none⟩, ⟨some (83, false), .load none (.tmp 82), none⟩, ⟨some (4, true), .mv (.tmp 83), none⟩] none) (.seq (.region [⟨some (84, false), .mv (.var 0), none⟩, ⟨some (85, false), .load (some 4) (.var 5), none⟩, ⟨some (86, false), .call false (.tmp 84) [(.tmp 85)], none⟩, ⟨some (87, false), .un .not (.tmp 86), none⟩, ⟨some (88, false), .mv (.tmp 87), none⟩, ⟨some (89, false), .fieldAddr 0 (.var 5), some ((.tmp 88), false)⟩, ⟨some (90, false), .load none (.tmp 89), some ((.tmp 88), false)⟩, ⟨some (91, false), .bin .eql (.tmp 90) (.const (.int .i64 0)), some ((.tmp 88), false)⟩, ⟨some (92, true), .pick (.tmp 88) (.const (.bool true)) (.tmp 91), none⟩] none) (.cond (.var 92) (.ret) (.skip))))))))) := rfl

def wrongL : List UInt8 → Nat
  | [] => 0
  | c :: r => if isW c || c.toNat == 35 || beg (c :: r) then 0 else wrongL r + 1
theorem wrongL_le : ∀ s : List UInt8, wrongL s ≤ s.length
  | [] => Nat.le_refl _
  | c :: r => by
    have := wrongL_le r
    simp only [wrongL, List.length_cons]
    split <;> omega
def tokKind : List UInt8 → Nat
  | [] => 0
  | c :: r => if isL c then (if kw.contains ((c :: r).take (runLen isPt (c :: r))) then 2 else 1) else if isD c then 3 else if 0 < sym (c :: r) then 4 else 5
def tokLen : List UInt8 → Nat
  | [] => 0
  | c :: r => if isL c then runLen isPt (c :: r) else if isD c then runLen isD (c :: r) else if 0 < sym (c :: r) then sym (c :: r) else wrongL r + 1

theorem pre_len {s w : List UInt8} (h : pre s w = true) : w.length ≤ s.length := by
  unfold pre at h
  have := eq_of_beq h
  rw [← this, List.length_take]; exact Nat.min_le_right _ _
theorem sym_le (s : List UInt8) : sym s ≤ s.length := by
  unfold sym
  split
  · rename_i h
    obtain ⟨w, hw, hp⟩ := List.any_eq_true.1 h
    have := pre_len hp
    have h2 : ∀ w ∈ two, w.length = 2 := by decide
    rw [h2 w hw] at this; exact this
  · split
    · exact Nat.le_refl _
    · split <;> simp
theorem tokLen_le (s : List UInt8) : tokLen s ≤ s.length := by
  cases s with
  | nil => exact Nat.le_refl _
  | cons c r =>
    have h1 := runLen_le isPt (c :: r)
    have h2 := runLen_le isD (c :: r)
    have h3 := sym_le (c :: r)
    have h4 := wrongL_le r
    simp only [tokLen]
    split
    · exact h1
    · split
      · exact h2
      · split
        · exact h3
        · simp; omega

set_option maxHeartbeats 1000000 in
theorem wrong_loop {s : List UInt8} {H : Heap} {lo : Nat} (hl : s.length < 4611686018427387904) (hm0 : min lo H.length = lo) :
    ∀ (r : List UInt8) (k : Nat) (st : St), s.drop k = r → k ≤ s.length → st.H = H → st.low = lo → lookupE st.vE 6 = .str s → lookupE st.vE 7 = .int .i64 k →
      ∃ st', execL tab (.loop F68L0) st = some (.exit 3, st') ∧ st'.H = H ∧ st'.low = lo ∧ lookupE st'.vE 7 = .int .i64 ((k + wrongL r : Nat) : Int) ∧ ∀ t, t < 7 → lookupE st'.vE t = lookupE st.vE t
  | [], k, st, hr, hk, h1, h2, h6, h7 => by
    have hle := drop_nil hr
    have hn : ¬ (k : Int) < (s.length : Int) := by omega
    rw [execL_loop]
    refine ⟨_, by simp [F68L0, callBody, zipE, execL_seq, execL_region, execL_cond, execL_skip, execL_ret, execL_exit, execL_block, execOps, wantedA, S_mv, S_pick, S_bin, S_un, S_call0, S_call1, S_extract, S_nilEq, S_load, S_alloc, S_box, Opd.ev, lookupE, lookE_setE, St.put, binA, unA, boolOf, freezeVs, freezeV, freeze1, isP, isPs, resultsA, resultA, finish, old, olds, flat, movedH_same, Nat.min_self, loadA, readCells, cellsV, S_len0, h1, h2, h6, h7, hn, hm0]; rfl, ?_⟩
    simp only [lookE_setE, h1, h2, wrongL]
    exact ⟨by simp, by first | (simp [hm0, hm1]; done) | (simp [hm0]; done) | (simp; omega) | omega, by simp [h7], fun t ht => by simp [show t ≠ 44 by omega]⟩
  | c :: r, k, st, hr, hk, h1, h2, h6, h7 => by
    obtain ⟨g1, g2, g3⟩ := drop_cons hr
    have hn : (k : Int) < (s.length : Int) := by omega
    have hc := white_s c H
    have hb0 := begins_s c r H
    unfold Ans bv at hc
    unfold Ans at hb0
    have hb : callL tab (.fn 76 [] []) [V.str (s.drop k)] H = some (.bool (beg (c :: r)), H, H.length) := by rw [hr]; exact hb0
    have hg : ∀ h : k < s.length, s[k]'h = c := fun h => by rw [List.getElem?_eq_getElem h] at g1; exact Option.some.inj g1
    have hkl : k ≤ s.length := by omega
    have hw : IntKind.i64.wrap ((k : Int) + 1) = ((k + 1 : Nat) : Int) := by rw [wrap_small] <;> omega
    have e35 : ((c.toNat : Int) != 35) = !(c.toNat == 35) := by simp only [bne, show ((c.toNat : Int) == 35) = (c.toNat == 35) from beqI c 35]
    by_cases hstop : (isW c || c.toNat == 35 || beg (c :: r)) = true
    · have hz : wrongL (c :: r) = 0 := by simp only [wrongL, hstop, if_true]
      rw [execL_loop, hz]
      cases hW : isW c with
      | true =>
        rw [hW] at hc
        refine ⟨_, by simp [F68L0, callBody, zipE, execL_seq, execL_region, execL_cond, execL_skip, execL_ret, execL_exit, execL_block, execOps, wantedA, S_mv, S_pick, S_bin, S_un, S_call0, S_call1, S_extract, S_nilEq, S_load, S_alloc, S_box, Opd.ev, lookupE, lookE_setE, St.put, binA, unA, boolOf, freezeVs, freezeV, freeze1, isP, isPs, resultsA, resultA, finish, old, olds, flat, movedH_same, Nat.min_self, loadA, readCells, cellsV, S_len0, S_indexS, h1, h2, h6, h7, hn, hg, g3, hc, hm0]; rfl, ?_⟩
        simp only [lookE_setE, h1, h2]
        exact ⟨by simp, by first | (simp [hm0, hm1]; done) | (simp [hm0]; done) | (simp; omega) | omega, by simp [h7], fun t ht => by simp [show t ≠ 44 by omega]⟩
      | false =>
        rw [hW] at hc
        cases h35 : (c.toNat == 35) with
        | true =>
          refine ⟨_, by simp [F68L0, callBody, zipE, execL_seq, execL_region, execL_cond, execL_skip, execL_ret, execL_exit, execL_block, execOps, wantedA, S_mv, S_pick, S_bin, S_un, S_call0, S_call1, S_extract, S_nilEq, S_load, S_alloc, S_box, Opd.ev, lookupE, lookE_setE, St.put, binA, unA, boolOf, freezeVs, freezeV, freeze1, isP, isPs, resultsA, resultA, finish, old, olds, flat, movedH_same, Nat.min_self, loadA, readCells, cellsV, S_len0, S_indexS, h1, h2, h6, h7, hn, hg, g3, hc, e35, h35, hm0]; rfl, ?_⟩
          simp only [lookE_setE, h1, h2]
          exact ⟨by simp, by first | (simp [hm0, hm1]; done) | (simp [hm0]; done) | (simp; omega) | omega, by simp [h7], fun t ht => by simp [show t ≠ 44 by omega]⟩
        | false =>
          have hbt : beg (c :: r) = true := by simpa [hW, h35] using hstop
          rw [hbt] at hb
          refine ⟨_, by simp [F68L0, callBody, zipE, execL_seq, execL_region, execL_cond, execL_skip, execL_ret, execL_exit, execL_block, execOps, wantedA, S_mv, S_pick, S_bin, S_un, S_call0, S_call1, S_extract, S_nilEq, S_load, S_alloc, S_box, Opd.ev, lookupE, lookE_setE, St.put, binA, unA, boolOf, freezeVs, freezeV, freeze1, isP, isPs, resultsA, resultA, finish, old, olds, flat, movedH_same, Nat.min_self, loadA, readCells, cellsV, S_len0, S_indexS, S_sliceS, bnd, hkl, h1, h2, h6, h7, hn, hg, g3, hc, hb, e35, h35, hm0]; rfl, ?_⟩
          simp only [lookE_setE, h1, h2]
          exact ⟨by simp, by first | (simp [hm0, hm1]; done) | (simp [hm0]; done) | (simp; omega) | omega, by simp [h7], fun t ht => by simp [show t ≠ 44 by omega]⟩
    · have hz : wrongL (c :: r) = wrongL r + 1 := by simp only [wrongL, hstop, if_false]; simp
      have hW : isW c = false := by cases h : isW c <;> simp [h] at hstop ⊢
      have h35 : (c.toNat == 35) = false := by cases h : (c.toNat == 35) <;> simp [h] at hstop ⊢
      have hbf : beg (c :: r) = false := by cases h : beg (c :: r) <;> simp [h] at hstop ⊢
      rw [hW] at hc
      rw [hbf] at hb
      have hstep : ∃ st1, execL tab F68L0 st = some (.normal, st1) ∧ st1.H = H ∧ st1.low = lo ∧ lookupE st1.vE 7 = .int .i64 ((k + 1 : Nat) : Int) ∧ ∀ t, t < 7 → lookupE st1.vE t = lookupE st.vE t := by
        refine ⟨_, by simp [F68L0, callBody, zipE, execL_seq, execL_region, execL_cond, execL_skip, execL_ret, execL_exit, execL_block, execOps, wantedA, S_mv, S_pick, S_bin, S_un, S_call0, S_call1, S_extract, S_nilEq, S_load, S_alloc, S_box, Opd.ev, lookupE, lookE_setE, St.put, binA, unA, boolOf, freezeVs, freezeV, freeze1, isP, isPs, resultsA, resultA, finish, old, olds, flat, movedH_same, Nat.min_self, loadA, readCells, cellsV, S_len0, S_indexS, S_sliceS, bnd, hkl, h1, h2, h6, h7, hn, hg, g3, hc, hb, e35, h35, hm0, hw]; rfl, ?_⟩
        simp only [lookE_setE, h1, h2]
        exact ⟨by simp, by first | (simp [hm0, hm1]; done) | (simp [hm0]; done) | (simp; omega) | omega, by simp, fun t ht => by simp [show t ≠ 44 by omega, show t ≠ 7 by omega]⟩
      obtain ⟨st1, q1, q2, q3, q4, q5⟩ := hstep
      obtain ⟨st', r1, r2, r3, r4, r5⟩ := wrong_loop hl hm0 r (k + 1) st1 g2 (by omega) q2 q3 (by rw [q5 6 (by decide)]; exact h6) q4
      refine ⟨st', by rw [execL_loop, q1]; exact r1, r2, r3, ?_, fun t ht => (r5 t ht).trans (q5 t ht)⟩
      rw [r4, hz]; simp; omega

set_option maxHeartbeats 2000000 in
theorem kind_s {s : List UInt8} {H : Heap} {lo p2 m : Nat} {a b : Int} (hl : s.length < 4611686018427387904) (hlo : lo ≤ H.length) (g2 : H[p2]? = some (.cells [.map m])) (gm : H[m]? = some (.map kwEnts))
    {st : St} (h1 : st.H = H ++ [.cells [.int .i64 0, .int .i64 a, .int .i64 b, .int .i64 0]]) (h2 : st.low = lo) (l2 : lookupE st.vE 2 = .ptr p2 0) (l5 : lookupE st.vE 5 = .ptr H.length 0) (l6 : lookupE st.vE 6 = .str s) (l7 : lookupE st.vE 7 = .int .i64 0) :
    ∃ st', execL tab F68K st = some (.normal, st') ∧ st'.H = H ++ [.cells [.int .i64 (tokKind s), .int .i64 a, .int .i64 b, .int .i64 0]] ∧ st'.low = lo ∧ lookupE st'.vE 7 = .int .i64 (tokLen s) ∧ ∀ t, t < 7 → lookupE st'.vE t = lookupE st.vE t := by
  have hm0 : min lo H.length = lo := Nat.min_eq_left hlo
  have hm1 : min lo (H.length + 1) = lo := Nat.min_eq_left (by omega)
  have hA2 := fun t => get_app g2 t
  have hAm := fun t => get_app gm t
  cases s with
  | nil =>
    refine ⟨_, by simp [F68K, callBody, zipE, execL_seq, execL_region, execL_cond, execL_skip, execL_ret, execL_exit, execL_block, execOps, wantedA, S_mv, S_pick, S_bin, S_un, S_call0, S_call1, S_extract, S_nilEq, S_load, S_alloc, S_box, Opd.ev, lookupE, lookE_setE, St.put, binA, unA, boolOf, freezeVs, freezeV, freeze1, isP, isPs, resultsA, resultA, finish, old, olds, flat, movedH_same, Nat.min_self, loadA, readCells, cellsV, h1, h2, l2, l5, l6, l7, hm0, hm1]; rfl, ?_⟩
    simp only [lookE_setE, h1, h2, tokKind, tokLen]
    exact ⟨by simp, by first | (simp [hm0, hm1]; done) | (simp [hm0]; done) | (simp; omega) | omega, by simp [l7], fun t ht => by simp [show t ≠ 47 by omega]⟩
  | cons c r =>
    have hne : ((c :: r) == []) = false := rfl
    have hL := letter_s c (H ++ [.cells [.int .i64 0, .int .i64 a, .int .i64 b, .int .i64 0]])
    have hD := digit_s c (H ++ [.cells [.int .i64 0, .int .i64 a, .int .i64 b, .int .i64 0]])
    have hS := symbol_s (c :: r) (H ++ [.cells [.int .i64 0, .int .i64 a, .int .i64 b, .int .i64 0]])
    have hRP := run_s (s := c :: r) (p := isPt) (i := 72) (fs := []) (cs := []) (H := H ++ [.cells [.int .i64 0, .int .i64 a, .int .i64 b, .int .i64 0]]) hl (fun c _ => part_s c _)
    have hRD := run_s (s := c :: r) (p := isD) (i := 73) (fs := []) (cs := []) (H := H ++ [.cells [.int .i64 0, .int .i64 a, .int .i64 b, .int .i64 0]]) hl (fun c _ => digit_s c _)
    unfold Ans bv at hL hD
    unfold Ans at hS hRP hRD
    simp only [List.length_append, List.length_cons, List.length_nil, Nat.zero_add] at hL hD hS hRP hRD
    have hrl := runLen_le isPt (c :: r)
    have hfk := find_kw ((c :: r).take (runLen isPt (c :: r)))
    cases a1 : isL c with
    | true =>
      rw [a1] at hL
      generalize hn : runLen isPt (c :: r) = n at *
      have hrl' : n ≤ r.length + 1 := hrl
      cases a2 : kw.contains ((c :: r).take n) with
      | true =>
        rw [a2] at hfk
        have ek : tokKind (c :: r) = 2 := by simp only [tokKind, a1, if_true, hn, a2]
        have el : tokLen (c :: r) = n := by simp only [tokLen, a1, if_true, hn]
        rw [ek, el]
        refine ⟨_, by simp [F68K, callBody, zipE, execL_seq, execL_region, execL_cond, execL_skip, execL_ret, execL_exit, execL_block, execOps, wantedA, S_mv, S_pick, S_bin, S_un, S_call0, S_call1, S_extract, S_nilEq, S_load, S_alloc, S_box, Opd.ev, lookupE, lookE_setE, St.put, binA, unA, boolOf, freezeVs, freezeV, freeze1, isP, isPs, resultsA, resultA, finish, old, olds, flat, movedH_same, Nat.min_self, loadA, readCells, cellsV, h1, h2, l2, l5, l6, l7, hm0, hm1, hne, S_indexS, natOf, hL, hRP, S_store, S_fieldAddr, storeA, cellsOk, cellOk, setCells, S_sliceS, bnd, hrl, S_lookup, step, hA2, hAm, hfk, hrl', movedH, inOrder, -List.take_succ_cons]; rfl, ?_⟩
        simp only [lookE_setE, h1, h2]
        exact ⟨by simp, by first | (simp [hm0, hm1]; done) | (simp; omega) | omega, by simp, fun t ht => by simp [show t ≠ 47 by omega, show t ≠ 50 by omega, show t ≠ 61 by omega, show t ≠ 7 by omega]⟩
      | false =>
        rw [a2] at hfk
        have ek : tokKind (c :: r) = 1 := by simp only [tokKind, a1, if_true, hn, a2]; rfl
        have el : tokLen (c :: r) = n := by simp only [tokLen, a1, if_true, hn]
        rw [ek, el]
        refine ⟨_, by simp [F68K, callBody, zipE, execL_seq, execL_region, execL_cond, execL_skip, execL_ret, execL_exit, execL_block, execOps, wantedA, S_mv, S_pick, S_bin, S_un, S_call0, S_call1, S_extract, S_nilEq, S_load, S_alloc, S_box, Opd.ev, lookupE, lookE_setE, St.put, binA, unA, boolOf, freezeVs, freezeV, freeze1, isP, isPs, resultsA, resultA, finish, old, olds, flat, movedH_same, Nat.min_self, loadA, readCells, cellsV, h1, h2, l2, l5, l6, l7, hm0, hm1, hne, S_indexS, natOf, hL, hRP, S_store, S_fieldAddr, storeA, cellsOk, cellOk, setCells, S_sliceS, bnd, hrl, S_lookup, step, hA2, hAm, hfk, hrl', movedH, inOrder, -List.take_succ_cons]; rfl, ?_⟩
        simp only [lookE_setE, h1, h2]
        exact ⟨by simp, by first | (simp [hm0, hm1]; done) | (simp; omega) | omega, by simp, fun t ht => by simp [show t ≠ 47 by omega, show t ≠ 50 by omega, show t ≠ 61 by omega, show t ≠ 7 by omega]⟩
    | false =>
      rw [a1] at hL
      cases a2 : isD c with
      | true =>
        rw [a2] at hD
        have ek : tokKind (c :: r) = 3 := by simp only [tokKind, a1, a2, if_true]; rfl
        have el : tokLen (c :: r) = runLen isD (c :: r) := by simp only [tokLen, a1, a2, if_true]; rfl
        rw [ek, el]
        refine ⟨_, by simp [F68K, callBody, zipE, execL_seq, execL_region, execL_cond, execL_skip, execL_ret, execL_exit, execL_block, execOps, wantedA, S_mv, S_pick, S_bin, S_un, S_call0, S_call1, S_extract, S_nilEq, S_load, S_alloc, S_box, Opd.ev, lookupE, lookE_setE, St.put, binA, unA, boolOf, freezeVs, freezeV, freeze1, isP, isPs, resultsA, resultA, finish, old, olds, flat, movedH_same, Nat.min_self, loadA, readCells, cellsV, h1, h2, l2, l5, l6, l7, hm0, hm1, hne, S_indexS, natOf, hL, hD, hRD, S_store, S_fieldAddr, storeA, cellsOk, cellOk, setCells]; rfl, ?_⟩
        simp only [lookE_setE, h1, h2]
        exact ⟨by simp, by first | (simp [hm0, hm1]; done) | (simp; omega) | omega, by simp, fun t ht => by simp [show t ≠ 47 by omega, show t ≠ 50 by omega, show t ≠ 63 by omega, show t ≠ 7 by omega]⟩
      | false =>
        rw [a2] at hD
        by_cases a3 : 0 < sym (c :: r)
        · have ek : tokKind (c :: r) = 4 := by simp only [tokKind, a1, a2, a3, if_true]; rfl
          have el : tokLen (c :: r) = sym (c :: r) := by simp only [tokLen, a1, a2, a3, if_true]; rfl
          rw [ek, el]
          refine ⟨_, by simp [F68K, callBody, zipE, execL_seq, execL_region, execL_cond, execL_skip, execL_ret, execL_exit, execL_block, execOps, wantedA, S_mv, S_pick, S_bin, S_un, S_call0, S_call1, S_extract, S_nilEq, S_load, S_alloc, S_box, Opd.ev, lookupE, lookE_setE, St.put, binA, unA, boolOf, freezeVs, freezeV, freeze1, isP, isPs, resultsA, resultA, finish, old, olds, flat, movedH_same, Nat.min_self, loadA, readCells, cellsV, h1, h2, l2, l5, l6, l7, hm0, hm1, hne, S_indexS, natOf, hL, hD, hS, a3, S_store, S_fieldAddr, storeA, cellsOk, cellOk, setCells]; rfl, ?_⟩
          simp only [lookE_setE, h1, h2]
          exact ⟨by simp, by first | (simp [hm0, hm1]; done) | (simp; omega) | omega, by simp, fun t ht => by simp [show t ≠ 47 by omega, show t ≠ 50 by omega, show t ≠ 63 by omega, show t ≠ 70 by omega, show t ≠ 7 by omega]⟩
        · have ek : tokKind (c :: r) = 5 := by simp only [tokKind, a1, a2, a3, if_false]; rfl
          have el : tokLen (c :: r) = wrongL r + 1 := by simp only [tokLen, a1, a2, a3, if_false]; rfl
          rw [ek, el]
          obtain ⟨st1, q1, q2, q3, q4, q5⟩ := wrong_loop (s := c :: r) (H := H ++ [.cells [.int .i64 5, .int .i64 a, .int .i64 b, .int .i64 0]]) (lo := lo) hl (by simp; omega) r 1
            { tE := [], vE := setE (setE (setE (setE (setE st.vE 47 (.bool false)) 50 (.bool false)) 63 (.bool false)) 70 (.bool false)) 7 (.int .i64 1), H := H ++ [.cells [.int .i64 5, .int .i64 a, .int .i64 b, .int .i64 0]], low := lo, ro := st.ro } rfl (by simp) rfl rfl (by simp [lookE_setE, l6]) (by simp [lookE_setE])
          refine ⟨st1, by simp [F68K, callBody, zipE, execL_seq, execL_region, execL_cond, execL_skip, execL_ret, execL_exit, execL_block, execOps, wantedA, S_mv, S_pick, S_bin, S_un, S_call0, S_call1, S_extract, S_nilEq, S_load, S_alloc, S_box, Opd.ev, lookupE, lookE_setE, St.put, binA, unA, boolOf, freezeVs, freezeV, freeze1, isP, isPs, resultsA, resultA, finish, old, olds, flat, movedH_same, Nat.min_self, loadA, readCells, cellsV, h1, h2, l2, l5, l6, l7, hm0, hm1, hne, S_indexS, natOf, hL, hD, hS, a3, S_store, S_fieldAddr, storeA, cellsOk, cellOk, setCells, q1], q2, q3, ?_, fun t ht => ?_⟩
          · rw [q4]; simp; omega
          · rw [q5 t ht]; simp [lookE_setE, show t ≠ 47 by omega, show t ≠ 50 by omega, show t ≠ 63 by omega, show t ≠ 70 by omega, show t ≠ 7 by omega]
end Go.Abs.T09
/- What lexer.tokens does in one round; lexer.Kind and lexer.Name. -/
namespace Go.Abs.T09
open Go Go.Abs

def F68R1 : ACode := .region [⟨some (8, false), .mv (.var 4), none⟩, ⟨some (9, false), .mv (.var 4), none⟩, ⟨some (10, false), .load none (.var 1), none⟩, ⟨some (11, false), .mv (.var 4), none⟩, ⟨some (12, false), .sliceS (.tmp 10) (some (.tmp 11)) none, none⟩, ⟨some (13, false), .call false (.func 69) [(.tmp 12)], none⟩, ⟨some (14, false), .bin .add (.tmp 9) (.tmp 13), none⟩, ⟨some (15, false), .build [.int .i64 0, .int .i64 0, .int .i64 0, .int .i64 0] [(1, 1, (.tmp 8)), (2, 1, (.tmp 14))], none⟩, ⟨some (5, true), .alloc [.int .i64 0, .int .i64 0, .int .i64 0, .int .i64 0], none⟩, ⟨none, .store 4 (.var 5) (.tmp 15), none⟩] none
def F68R2 : ACode := .region [⟨some (16, false), .load none (.var 1), none⟩, ⟨some (17, false), .fieldAddr 2 (.var 5), none⟩, ⟨some (18, false), .load none (.tmp 17), none⟩, ⟨some (19, false), .sliceS (.tmp 16) (some (.tmp 18)) none, none⟩, ⟨some (6, true), .mv (.tmp 19), none⟩] none
def F68R3 : ACode := .region [⟨some (7, true), .mv (.const (.int .i64 0)), none⟩] none
def F68E : ACode := .seq (.region [⟨some (77, false), .fieldAddr 2 (.var 5), none⟩, ⟨some (78, false), .load none (.tmp 77), none⟩, ⟨some (79, false), .mv (.var 7), none⟩, ⟨some (80, false), .bin .add (.tmp 78) (.tmp 79), none⟩, ⟨some (81, false), .fieldAddr 3 (.var 5), none⟩, ⟨none, .store 1 (.tmp 81) (.tmp 80), none⟩] none) (.seq (.region [⟨some (82, false), .fieldAddr 3 (.var 5), none⟩, ⟨some (83, false), .load none (.tmp 82), none⟩, ⟨some (4, true), .mv (.tmp 83), none⟩] none) (.seq (.region [⟨some (84, false), .mv (.var 0), none⟩, ⟨some (85, false), .load (some 4) (.var 5), none⟩, ⟨some (86, false), .call false (.tmp 84) [(.tmp 85)], none⟩, ⟨some (87, false), .un .not (.tmp 86), none⟩, ⟨some (88, false), .mv (.tmp 87), none⟩, ⟨some (89, false), .fieldAddr 0 (.var 5), some ((.tmp 88), false)⟩, ⟨some (90, false), .load none (.tmp 89), some ((.tmp 88), false)⟩, ⟨some (91, false), .bin .eql (.tmp 90) (.const (.int .i64 0)), some ((.tmp 88), false)⟩, ⟨some (92, true), .pick (.tmp 88) (.const (.bool true)) (.tmp 91), none⟩] none) (.cond (.var 92) (.ret) (.skip))))
theorem F68L1_parts : F68L1 = .block 1 (.seq F68R1 (.seq F68R2 (.seq F68R3 (.seq (.block 2 F68K) F68E)))) := rfl

def tokAt (s : List UInt8) (at0 : Nat) : Nat := at0 + skipL false (s.drop at0)
def tokEnd (s : List UInt8) (at0 : Nat) : Nat := tokAt s at0 + tokLen (s.drop (tokAt s at0))
def tokV (s : List UInt8) (at0 : Nat) : List V := [.int .i64 (tokKind (s.drop (tokAt s at0))), .int .i64 at0, .int .i64 (tokAt s at0), .int .i64 (tokEnd s at0)]
theorem tokAt_le {s : List UInt8} {k : Nat} (h : k ≤ s.length) : tokAt s k ≤ s.length := by
  have := skipL_le false (s.drop k)
  rw [List.length_drop] at this
  unfold tokAt; omega
theorem tokEnd_le {s : List UInt8} {k : Nat} (h : k ≤ s.length) : tokEnd s k ≤ s.length := by
  have h1 := tokAt_le h
  have := tokLen_le (s.drop (tokAt s k))
  rw [List.length_drop] at this
  unfold tokEnd; omega

set_option maxHeartbeats 2000000 in
theorem token_round {s : List UInt8} {H H2 : Heap} {p1 p2 m L at0 low2 m0 : Nat} {b : Bool} (hl : s.length < 4611686018427387904) (hat : at0 ≤ s.length) (g1 : H[p1]? = some (.cells [.str s])) (g2 : H[p2]? = some (.cells [.map m])) (gm : H[m]? = some (.map kwEnts))
    {st : St} (h1 : st.H = H) (h2 : m0 ≤ st.low) (h2' : st.low ≤ H.length) (l0 : lookupE st.vE 0 = .yield L) (l1 : lookupE st.vE 1 = .ptr p1 0) (l2 : lookupE st.vE 2 = .ptr p2 0) (l4 : lookupE st.vE 4 = .int .i64 at0)
    (hy : callL tab (.yield L) [.agg (tokV s at0)] (H ++ [.cells (tokV s at0)]) = some (.bool b, H2, low2)) (hlow2 : low2 ≤ H.length) (hm0 : m0 ≤ low2) (hmH2 : m0 ≤ H2.length) (hH2 : b = true → H2[H.length]? = some (.cells (tokV s at0))) :
    ∃ x st', execL tab F68L1 st = some (x, st') ∧ x = (if b && decide (tokKind (s.drop (tokAt s at0)) ≠ 0) then .normal else .ret) ∧ st'.H = H2 ∧ m0 ≤ st'.low ∧ st'.low ≤ low2 ∧ lookupE st'.vE 4 = .int .i64 (tokEnd s at0) ∧ ∀ t, t < 4 → lookupE st'.vE t = lookupE st.vE t := by
  have hA1 := fun t => get_app g1 t
  have hA2 := fun t => get_app g2 t
  have hAm := fun t => get_app gm t
  obtain ⟨lo, hlo⟩ : ∃ lo, st.low = lo := ⟨_, rfl⟩
  rw [hlo] at h2 h2'
  have n0 : min lo H.length = lo := Nat.min_eq_left h2'
  have n1 : min lo (H.length + 1) = lo := Nat.min_eq_left (by omega)
  have hsk := skip_s (s := s.drop at0) (H := H) (by rw [List.length_drop]; omega)
  unfold Ans at hsk
  have hta := tokAt_le hat
  have hte := tokEnd_le hat
  have hw1 : IntKind.i64.wrap ((at0 : Int) + (skipL false (s.drop at0) : Int)) = (tokAt s at0 : Int) := by
    have e : (at0 : Int) + (skipL false (s.drop at0) : Int) = (tokAt s at0 : Int) := by unfold tokAt; omega
    rw [e, wrap_small] <;> omega
  have hw2 : IntKind.i64.wrap ((tokAt s at0 : Int) + (tokLen (s.drop (tokAt s at0)) : Int)) = (tokEnd s at0 : Int) := by
    have e : (tokAt s at0 : Int) + (tokLen (s.drop (tokAt s at0)) : Int) = (tokEnd s at0 : Int) := by unfold tokEnd; omega
    rw [e, wrap_small] <;> omega
  have A : ∃ st1, execL tab F68R1 st = some (.normal, st1) ∧ st1.H = H ++ [.cells [.int .i64 0, .int .i64 at0, .int .i64 (tokAt s at0), .int .i64 0]] ∧ st1.low = lo ∧ lookupE st1.vE 5 = .ptr H.length 0 ∧ ∀ t, t < 5 → lookupE st1.vE t = lookupE st.vE t := by
    refine ⟨_, by simp [F68R1, callBody, zipE, execL_seq, execL_region, execL_cond, execL_skip, execL_ret, execL_exit, execL_block, execOps, wantedA, S_mv, S_pick, S_bin, S_un, S_call0, S_call1, S_extract, S_nilEq, S_load, S_alloc, S_box, Opd.ev, lookupE, lookE_setE, St.put, binA, unA, boolOf, freezeVs, freezeV, freeze1, isP, isPs, resultsA, resultA, finish, old, olds, flat, movedH_same, Nat.min_self, loadA, readCells, cellsV, h1, hlo, l4, l1, g1, S_sliceS, bnd, hat, hsk, hw1, step, fillA, setCells, cellsOk, cellOk, S_store, storeA, n0, n1]; rfl, ?_⟩
    simp only [lookE_setE, h1]
    exact ⟨by simp [setCells, Opd.ev, lookupE, cellsV], by first | (simp [n0, n1]; done) | (simp; omega), by simp, fun t ht => by simp [show t ≠ 5 by omega]⟩
  obtain ⟨st1, a1, a2, a3, a4, a5⟩ := A
  have B : ∃ st2, execL tab F68R2 st1 = some (.normal, st2) ∧ st2.H = st1.H ∧ st2.low = lo ∧ lookupE st2.vE 6 = .str (s.drop (tokAt s at0)) ∧ ∀ t, t < 6 → lookupE st2.vE t = lookupE st1.vE t := by
    have b1 : lookupE st1.vE 1 = .ptr p1 0 := (a5 1 (by decide)).trans l1
    refine ⟨_, by simp [F68R2, callBody, zipE, execL_seq, execL_region, execL_cond, execL_skip, execL_ret, execL_exit, execL_block, execOps, wantedA, S_mv, S_pick, S_bin, S_un, S_call0, S_call1, S_extract, S_nilEq, S_load, S_alloc, S_box, Opd.ev, lookupE, lookE_setE, St.put, binA, unA, boolOf, freezeVs, freezeV, freeze1, isP, isPs, resultsA, resultA, finish, old, olds, flat, movedH_same, Nat.min_self, loadA, readCells, cellsV, a2, a3, a4, b1, hA1, S_fieldAddr, S_sliceS, bnd, hta, n0, n1]; rfl, ?_⟩
    simp only [lookE_setE, a2]
    exact ⟨by simp, by first | (simp [n0, n1]; done) | (simp; omega), by simp, fun t ht => by simp [show t ≠ 6 by omega]⟩
  obtain ⟨st2, b1, b2, b3, b4, b5⟩ := B
  have Cc : ∃ st3, execL tab F68R3 st2 = some (.normal, st3) ∧ st3.H = st1.H ∧ st3.low = lo ∧ lookupE st3.vE 7 = .int .i64 0 ∧ ∀ t, t < 7 → lookupE st3.vE t = lookupE st2.vE t := by
    refine ⟨_, by simp [F68R3, callBody, zipE, execL_seq, execL_region, execL_cond, execL_skip, execL_ret, execL_exit, execL_block, execOps, wantedA, S_mv, S_pick, S_bin, S_un, S_call0, S_call1, S_extract, S_nilEq, S_load, S_alloc, S_box, Opd.ev, lookupE, lookE_setE, St.put, binA, unA, boolOf, freezeVs, freezeV, freeze1, isP, isPs, resultsA, resultA, finish, old, olds, flat, movedH_same, Nat.min_self, loadA, readCells, cellsV, b2, b3, a2, n0, n1]; rfl, ?_⟩
    simp only [lookE_setE, a2, b2]
    exact ⟨by simp, by first | (simp [n0, n1]; done) | (simp; omega), by simp, fun t ht => by simp [show t ≠ 7 by omega]⟩
  obtain ⟨st3, c1, c2, c3, c4, c5⟩ := Cc
  obtain ⟨st4, d1, d3, d4, d5, d6⟩ := kind_s (s := s.drop (tokAt s at0)) (H := H) (lo := lo) (by rw [List.length_drop]; omega) h2' g2 gm (st := st3) (c2.trans a2) c3
    (by rw [c5 2 (by decide), b5 2 (by decide), a5 2 (by decide)]; exact l2) (by rw [c5 5 (by decide), b5 5 (by decide)]; exact a4) (by rw [c5 6 (by decide)]; exact b4) c4
  have keep : ∀ t, t < 5 → lookupE st4.vE t = lookupE st.vE t := fun t ht => by rw [d6 t (by omega), c5 t (by omega), b5 t (by omega), a5 t ht]
  have k5 : lookupE st4.vE 5 = .ptr H.length 0 := by rw [d6 5 (by decide), c5 5 (by decide), b5 5 (by decide)]; exact a4
  have k0 : lookupE st4.vE 0 = .yield L := (keep 0 (by decide)).trans l0
  have hlen2 : ∀ t : Heap, ¬ H.length + 1 ≤ low2 := fun _ => by omega
  have hl2 := hlen2 []
  have hml : m0 ≤ H.length := by omega
  have E : ∃ x st5, execL tab F68E st4 = some (x, st5) ∧ x = (if b && decide (tokKind (s.drop (tokAt s at0)) ≠ 0) then .normal else .ret) ∧ st5.H = H2 ∧ m0 ≤ st5.low ∧ st5.low ≤ low2 ∧ lookupE st5.vE 4 = .int .i64 (tokEnd s at0) ∧ ∀ t, t < 4 → lookupE st5.vE t = lookupE st4.vE t := by
    unfold tokV at hy hH2
    generalize hK : tokKind (s.drop (tokAt s at0)) = K at *
    cases b with
    | false =>
      refine ⟨.ret, _, by simp [F68E, callBody, zipE, execL_seq, execL_region, execL_cond, execL_skip, execL_ret, execL_exit, execL_block, execOps, wantedA, S_mv, S_pick, S_bin, S_un, S_call0, S_call1, S_extract, S_nilEq, S_load, S_alloc, S_box, Opd.ev, lookupE, lookE_setE, St.put, binA, unA, boolOf, freezeVs, freezeV, freeze1, isP, isPs, resultsA, resultA, finish, old, olds, flat, movedH_same, Nat.min_self, loadA, readCells, cellsV, d3, d4, d5, k5, k0, S_fieldAddr, S_store, storeA, cellsOk, cellOk, setCells, hw2, hy, hl2, n0, n1]; rfl, rfl, rfl, ?_⟩
      exact ⟨by simp; omega, by simp; omega, by simp [lookE_setE], fun t ht => by simp [lookE_setE, show t ≠ 92 by omega, show t ≠ 4 by omega]⟩
    | true =>
      have h2e := hH2 rfl
      have h2g : ∀ h : H.length < H2.length, H2[H.length]'h = .cells [.int .i64 K, .int .i64 at0, .int .i64 (tokAt s at0), .int .i64 (tokEnd s at0)] := fun h => by rw [List.getElem?_eq_getElem h] at h2e; exact Option.some.inj h2e
      by_cases hz : K = 0
      · have hzi : ((K : Int) == 0) = true := by simp [hz]
        refine ⟨.ret, _, by simp [F68E, callBody, zipE, execL_seq, execL_region, execL_cond, execL_skip, execL_ret, execL_exit, execL_block, execOps, wantedA, S_mv, S_pick, S_bin, S_un, S_call0, S_call1, S_extract, S_nilEq, S_load, S_alloc, S_box, Opd.ev, lookupE, lookE_setE, St.put, binA, unA, boolOf, freezeVs, freezeV, freeze1, isP, isPs, resultsA, resultA, finish, old, olds, flat, movedH_same, Nat.min_self, loadA, readCells, cellsV, d3, d4, d5, k5, k0, S_fieldAddr, S_store, storeA, cellsOk, cellOk, setCells, hw2, hy, hl2, n0, n1, h2e, h2g, hzi]; rfl, by simp [hz], rfl, ?_⟩
        exact ⟨by simp; omega, by simp; omega, by simp [lookE_setE], fun t ht => by simp [lookE_setE, show t ≠ 92 by omega, show t ≠ 4 by omega]⟩
      · have hzi : ((K : Int) == 0) = false := by simp; omega
        refine ⟨.normal, _, by simp [F68E, callBody, zipE, execL_seq, execL_region, execL_cond, execL_skip, execL_ret, execL_exit, execL_block, execOps, wantedA, S_mv, S_pick, S_bin, S_un, S_call0, S_call1, S_extract, S_nilEq, S_load, S_alloc, S_box, Opd.ev, lookupE, lookE_setE, St.put, binA, unA, boolOf, freezeVs, freezeV, freeze1, isP, isPs, resultsA, resultA, finish, old, olds, flat, movedH_same, Nat.min_self, loadA, readCells, cellsV, d3, d4, d5, k5, k0, S_fieldAddr, S_store, storeA, cellsOk, cellOk, setCells, hw2, hy, hl2, n0, n1, h2e, h2g, hzi]; rfl, by simp [hz], rfl, ?_⟩
        exact ⟨by simp; omega, by simp; omega, by simp [lookE_setE], fun t ht => by simp [lookE_setE, show t ≠ 92 by omega, show t ≠ 4 by omega]⟩
  obtain ⟨x, st5, e1, e2, e3, e4, e4', e5, e6⟩ := E
  have hx : x = .normal ∨ x = .ret := by rw [e2]; split <;> simp
  refine ⟨x, st5, ?_, e2, e3, e4, e4', e5, fun t ht => (e6 t ht).trans (keep t (by omega))⟩
  rw [F68L1_parts, execL_block, execL_seq, a1]
  simp only []
  rw [execL_seq, b1]
  simp only []
  rw [execL_seq, c1]
  simp only []
  rw [execL_seq, execL_block, d1]
  simp only []
  rw [e1]
  rcases hx with rfl | rfl <;> rfl
end Go.Abs.T09
/- lexer.Kind and lexer.Name. -/
namespace Go.Abs.T09
open Go Go.Abs

theorem get_off (H l : Heap) (k : Nat) : (H ++ l)[H.length + k]? = l[k]? := by rw [List.getElem?_append_right (by omega)]; simp
theorem get_off0 (H l : Heap) : (H ++ l)[H.length]? = l[0]? := get_off H l 0
theorem set_off (H l : Heap) (k : Nat) (x : AObj) : (H ++ l).set (H.length + k) x = H ++ l.set k x := by rw [List.set_append_right _ _ (by omega)]; simp
theorem set_off0 (H l : Heap) (x : AObj) : (H ++ l).set H.length x = H ++ l.set 0 x := set_off H l 0 x

def kindOf (w : List UInt8) : Nat := if w = [] ∨ 4096 < w.length then 0 else if tokAt w 0 = 0 ∧ tokEnd w 0 = w.length then tokKind w else 0

def kEnv (w : List UInt8) (n : Nat) : Env := [(0, .str w), (1, .ptr n 0), (2, .ptr (n + 1) 0), (10, .bool false), (12, .fn 68 [] [.ptr (n + 2) 0, .ptr (n + 4) 0])]
def kTail (w : List UInt8) (n : Nat) : Heap := [.cells [.str w], .cells [.int .i64 0], .cells [.str w], .map kwEnts, .cells [.map (n + 3)], .loop .ready .normal (kEnv w n) [13] F50A0 F50B0]

set_option maxHeartbeats 1000000 in
theorem kind_yield (w : List UInt8) (H : Heap) : ∃ H2 low2, callL tab (.yield (H.length + 5)) [.agg (tokV w 0)] (H ++ (kTail w H.length ++ [.cells (tokV w 0)])) = some (.bool false, H2, low2) ∧ H.length ≤ low2 ∧ low2 ≤ H.length + 5 ∧ H.length ≤ H2.length ∧
    ((tokAt w 0 = 0 ∧ tokEnd w 0 = w.length ∧ H2[H.length + 1]? = some (.cells [.int .i64 (tokKind (w.drop (tokAt w 0)))]) ∧ ∃ e p a b, H2[H.length + 5]? = some (.loop .done .ret e p a b)) ∨
     (¬ (tokAt w 0 = 0 ∧ tokEnd w 0 = w.length) ∧ H2[H.length + 1]? = some (.cells [.int .i64 0]) ∧ ∃ e p a b, H2[H.length + 5]? = some (.loop .done (.exit 0) e p a b))) := by
  rw [callL_yield]
  unfold tokV
  generalize tokKind (w.drop (tokAt w 0)) = K
  by_cases h1 : tokAt w 0 = 0
  · have e1 : ((tokAt w 0 : Int) != 0) = false := by simp [h1]
    by_cases h2 : tokEnd w 0 = w.length
    · have e2 : ((tokEnd w 0 : Int) != (w.length : Int)) = false := by simp [h2]
      refine ⟨_, _, by simp [kTail, kEnv, yieldBody, get_off, get_off0, set_off, set_off0, F50A0, F50B0, callBody, zipE, execL_seq, execL_region, execL_cond, execL_skip, execL_ret, execL_exit, execL_block, execOps, wantedA, S_mv, S_pick, S_bin, S_un, S_call0, S_call1, S_extract, S_nilEq, S_load, S_alloc, S_box, Opd.ev, lookupE, setE, St.put, binA, unA, boolOf, freezeVs, freezeV, freeze1, isP, isPs, resultsA, resultA, finish, old, olds, flat, movedH_same, Nat.min_self, loadA, readCells, cellsV, S_fieldAddr, S_len0, S_store, storeA, setCells, cellsOk, cellOk, e1, e2, movedH]; exact ⟨rfl, rfl⟩, ?_⟩
      exact ⟨by simp <;> omega, by simp <;> omega, by simp <;> omega, .inl ⟨h1, h2, by simp [get_off], _, _, _, _, by rw [get_off]; rfl⟩⟩
    · have e2 : ((tokEnd w 0 : Int) != (w.length : Int)) = true := by simp; omega
      refine ⟨_, _, by simp [kTail, kEnv, yieldBody, get_off, get_off0, set_off, set_off0, F50A0, F50B0, callBody, zipE, execL_seq, execL_region, execL_cond, execL_skip, execL_ret, execL_exit, execL_block, execOps, wantedA, S_mv, S_pick, S_bin, S_un, S_call0, S_call1, S_extract, S_nilEq, S_load, S_alloc, S_box, Opd.ev, lookupE, setE, St.put, binA, unA, boolOf, freezeVs, freezeV, freeze1, isP, isPs, resultsA, resultA, finish, old, olds, flat, movedH_same, Nat.min_self, loadA, readCells, cellsV, S_fieldAddr, S_len0, S_store, storeA, setCells, cellsOk, cellOk, e1, e2, movedH]; exact ⟨rfl, rfl⟩, ?_⟩
      exact ⟨by simp <;> omega, by simp <;> omega, by simp <;> omega, .inr ⟨fun h => h2 h.2, by simp [get_off], _, _, _, _, by rw [get_off]; rfl⟩⟩
  · have e1 : ((tokAt w 0 : Int) != 0) = true := by simp; omega
    refine ⟨_, _, by simp [kTail, kEnv, yieldBody, get_off, get_off0, set_off, set_off0, F50A0, F50B0, callBody, zipE, execL_seq, execL_region, execL_cond, execL_skip, execL_ret, execL_exit, execL_block, execOps, wantedA, S_mv, S_pick, S_bin, S_un, S_call0, S_call1, S_extract, S_nilEq, S_load, S_alloc, S_box, Opd.ev, lookupE, setE, St.put, binA, unA, boolOf, freezeVs, freezeV, freeze1, isP, isPs, resultsA, resultA, finish, old, olds, flat, movedH_same, Nat.min_self, loadA, readCells, cellsV, S_fieldAddr, S_len0, S_store, storeA, setCells, cellsOk, cellOk, e1, movedH]; exact ⟨rfl, rfl⟩, ?_⟩
    exact ⟨by simp <;> omega, by simp <;> omega, by simp <;> omega, .inr ⟨fun h => h1 h.1, by simp [get_off], _, _, _, _, by rw [get_off]; rfl⟩⟩

set_option maxHeartbeats 1000000 in
theorem tokens1_kind (w : List UInt8) (hl : w.length ≤ 4096) (H : Heap) : ∃ H2 low2, callL tab (.fn 68 [] [.ptr (H.length + 2) 0, .ptr (H.length + 4) 0]) [.yield (H.length + 5)] (H ++ kTail w H.length) = some (.tup [], H2, low2) ∧ H.length ≤ low2 ∧ H.length ≤ H2.length ∧
    ((tokAt w 0 = 0 ∧ tokEnd w 0 = w.length ∧ H2[H.length + 1]? = some (.cells [.int .i64 (tokKind (w.drop (tokAt w 0)))]) ∧ ∃ e p a b, H2[H.length + 5]? = some (.loop .done .ret e p a b)) ∨
     (¬ (tokAt w 0 = 0 ∧ tokEnd w 0 = w.length) ∧ H2[H.length + 1]? = some (.cells [.int .i64 0]) ∧ ∃ e p a b, H2[H.length + 5]? = some (.loop .done (.exit 0) e p a b))) := by
  obtain ⟨H2, low2, hy, b1, b2, b3, b4⟩ := kind_yield w H
  rw [← List.append_assoc] at hy
  have hlen : (H ++ kTail w H.length).length = H.length + 6 := by simp [kTail]
  obtain ⟨x, st', q1, q2, q3, q4, q5, q6, q7⟩ := token_round (s := w) (H := H ++ kTail w H.length) (H2 := H2) (p1 := H.length + 2) (p2 := H.length + 4) (m := H.length + 3) (L := H.length + 5) (at0 := 0) (low2 := low2) (m0 := H.length) (b := false)
    (by omega) (Nat.zero_le _) (by rw [get_off]; rfl) (by rw [get_off]; rfl) (by rw [get_off]; rfl)
    (st := { tE := [], vE := [(0, .yield (H.length + 5)), (1, .ptr (H.length + 2) 0), (2, .ptr (H.length + 4) 0), (4, .int .i64 0)], H := H ++ kTail w H.length, low := H.length + 6 }) rfl (by simp) (by rw [hlen]; exact Nat.le_refl _) rfl rfl rfl rfl hy (by rw [hlen]; omega) b1 b3 (fun h => by cases h)
  simp only [Bool.false_and] at q2
  subst q2
  have hlow : ¬ H.length + 6 ≤ st'.low := by omega
  refine ⟨H2, st'.low, ?_, q4, b3, b4⟩
  rw [callL_fn, show tab 68 = some (.code F68) from rfl]
  simp [F68, callBody, zipE, execL_seq, execL_region, execL_cond, execL_skip, execL_ret, execL_exit, execL_block, execOps, wantedA, S_mv, S_pick, S_bin, S_un, S_call0, S_call1, S_extract, S_nilEq, S_load, S_alloc, S_box, Opd.ev, lookupE, setE, St.put, binA, unA, boolOf, freezeVs, freezeV, freeze1, isP, isPs, resultsA, resultA, finish, old, olds, flat, movedH_same, Nat.min_self, loadA, readCells, cellsV, hlen, execL_loop F68L1, q1, q3, hlow]

set_option maxHeartbeats 1000000 in
theorem kindF_s (w : List UInt8) (H : Heap) : Ans (.fn 50 [] []) [.str w] H (.int .i64 (kindOf w)) := by
  unfold Ans
  rw [callL_fn, show tab 50 = some (.code F50) from rfl]
  by_cases h0 : w = []
  · subst h0
    simp [F50, callBody, zipE, execL_seq, execL_region, execL_cond, execL_skip, execL_ret, execL_exit, execL_block, execOps, wantedA, S_mv, S_pick, S_bin, S_un, S_call0, S_call1, S_extract, S_nilEq, S_load, S_alloc, S_box, Opd.ev, lookupE, setE, St.put, binA, unA, boolOf, freezeVs, freezeV, freeze1, isP, isPs, resultsA, resultA, finish, old, olds, flat, movedH_same, Nat.min_self, loadA, readCells, cellsV, cellsOk, cellOk, S_store, storeA, setCells, get_off, get_off0, set_off, set_off0, kindOf]
  · have e0 : (w == []) = false := by cases w <;> simp_all
    by_cases h1 : 4096 < w.length
    · have e1 : (4096 : Int) < (w.length : Int) := by omega
      simp [F50, callBody, zipE, execL_seq, execL_region, execL_cond, execL_skip, execL_ret, execL_exit, execL_block, execOps, wantedA, S_mv, S_pick, S_bin, S_un, S_call0, S_call1, S_extract, S_nilEq, S_load, S_alloc, S_box, Opd.ev, lookupE, setE, St.put, binA, unA, boolOf, freezeVs, freezeV, freeze1, isP, isPs, resultsA, resultA, finish, old, olds, flat, movedH_same, Nat.min_self, loadA, readCells, cellsV, cellsOk, cellOk, S_store, storeA, setCells, get_off, get_off0, set_off, set_off0, kindOf, e0, h0, h1, e1, S_len0]
    · have e1 : ¬ (4096 : Int) < (w.length : Int) := by omega
      have ht := tokens_s w (H ++ [.cells [.str w], .cells [.int .i64 0]])
      simp only [List.length_append, List.length_cons, List.length_nil, Nat.zero_add, List.append_assoc, List.cons_append, List.nil_append, Nat.add_assoc, Nat.reduceAdd] at ht
      obtain ⟨H2, low2, hc, b1, b2, b3⟩ := tokens1_kind w (by omega) H
      simp only [kTail, kEnv] at hc
      have hmin : min H.length low2 = H.length := Nat.min_eq_left b1
      have hmin2 : min H.length (min low2 (min H2.length (H.length + 1))) = H.length := by omega
      rcases b3 with ⟨c1, c2, c3, e, p, a, b, c4⟩ | ⟨c1, c3, e, p, a, b, c4⟩
      · have hk : kindOf w = tokKind (w.drop (tokAt w 0)) := by simp [kindOf, h0, h1, c1, c2]
        have c5 : (H2.set (H.length + 5) .gone)[H.length + 1]? = some (.cells [.int .i64 (tokKind (w.drop (tokAt w 0)))]) := by rw [List.getElem?_set_ne (by omega)]; exact c3
        rw [hk]
        simp [F50, callBody, zipE, execL_seq, execL_region, execL_cond, execL_skip, execL_ret, execL_exit, execL_block, execOps, wantedA, S_mv, S_pick, S_bin, S_un, S_call0, S_call1, S_extract, S_nilEq, S_load, S_alloc, S_box, Opd.ev, lookupE, setE, St.put, binA, unA, boolOf, freezeVs, freezeV, freeze1, isP, isPs, resultsA, resultA, finish, old, olds, flat, movedH_same, Nat.min_self, loadA, readCells, cellsV, cellsOk, cellOk, S_store, storeA, setCells, get_off, get_off0, set_off, set_off0, e0, h0, h1, e1, S_len0, ht, execL_range, roOk, isFn, hc, c4, c5, movedH, hmin]
      · have hk : kindOf w = 0 := by simp [kindOf, h0, h1]; exact fun h1 h2 => absurd ⟨h1, h2⟩ c1
        have c5 : (H2.set (H.length + 5) .gone)[H.length + 1]? = some (.cells [.int .i64 0]) := by rw [List.getElem?_set_ne (by omega)]; exact c3
        have c6 : ((H2.set (H.length + 5) .gone).set (H.length + 1) (.cells [.int .i64 0]))[H.length + 1]? = some (.cells [.int .i64 0]) := by rw [List.getElem?_set_self]; rw [List.length_set]; rcases Nat.lt_or_ge (H.length + 1) H2.length with h | h; exact h; rw [List.getElem?_eq_none h] at c3; cases c3
        rw [hk]
        simp [F50, callBody, zipE, execL_seq, execL_region, execL_cond, execL_skip, execL_ret, execL_exit, execL_block, execOps, wantedA, S_mv, S_pick, S_bin, S_un, S_call0, S_call1, S_extract, S_nilEq, S_load, S_alloc, S_box, Opd.ev, lookupE, setE, St.put, binA, unA, boolOf, freezeVs, freezeV, freeze1, isP, isPs, resultsA, resultA, finish, old, olds, flat, movedH_same, Nat.min_self, loadA, readCells, cellsV, cellsOk, cellOk, S_store, storeA, setCells, get_off, get_off0, set_off, set_off0, e0, h0, h1, e1, S_len0, ht, execL_range, roOk, isFn, hc, c4, c5, c6, movedH, hmin2]

def nameOk (w : List UInt8) : Bool := decide (w.length ≤ 16) && decide (kindOf w = 1)
theorem name_s (w : List UInt8) (H : Heap) : Ans (.fn 40 [] []) [.str w] H (.bool (nameOk w)) := by
  have hk := kindF_s w H
  unfold Ans at hk ⊢
  rw [callL_fn, show tab 40 = some (.code F40) from rfl]
  by_cases h : w.length ≤ 16
  · have h' : (w.length : Int) ≤ 16 := by omega
    have e : ((kindOf w : Int) == 1) = decide (kindOf w = 1) := by rw [Bool.eq_iff_iff]; simp; omega
    simp [F40, callBody, zipE, execL_seq, execL_region, execL_cond, execL_skip, execL_ret, execL_exit, execL_block, execOps, wantedA, S_mv, S_pick, S_bin, S_un, S_call0, S_call1, S_extract, S_nilEq, S_load, S_alloc, S_box, Opd.ev, lookupE, setE, St.put, binA, unA, boolOf, freezeVs, freezeV, freeze1, isP, isPs, resultsA, resultA, finish, old, olds, flat, movedH_same, Nat.min_self, loadA, readCells, cellsV, S_len0, h', hk, nameOk, h, e]
  · have h' : ¬ (w.length : Int) ≤ 16 := by omega
    simp [F40, callBody, zipE, execL_seq, execL_region, execL_cond, execL_skip, execL_ret, execL_exit, execL_block, execOps, wantedA, S_mv, S_pick, S_bin, S_un, S_call0, S_call1, S_extract, S_nilEq, S_load, S_alloc, S_box, Opd.ev, lookupE, setE, St.put, binA, unA, boolOf, freezeVs, freezeV, freeze1, isP, isPs, resultsA, resultA, finish, old, olds, flat, movedH_same, Nat.min_self, loadA, readCells, cellsV, S_len0, h', nameOk, h]
end Go.Abs.T09
/- What the parts of cells.Tuples compute. -/
namespace Go.Abs.T09
open Go Go.Abs

theorem min_succ (n : Nat) : min n (n + 1) = n := Nat.min_eq_left (Nat.le_succ n)
theorem slE_cells {es : Nat} {v : V} (h : slE es v = true) : cellsV v = [v] ∧ cellsOk [v] = true := by cases v <;> simp_all [slE, cellsV, cellsOk, cellOk]

theorem cellsV_int (k : IntKind) (n : Int) : cellsV (.int k n) = [.int k n] := rfl

theorem S_box_sl {call : CallT} {ev : Opd → V} {H : Heap} {low es : Nat} {x : Opd} (h : slE es (ev x) = true) : stepC call ev H low (.box x) = some (.ptr H.length 0, H ++ [.cells [ev x]], low) := by
  rw [S_box, (slE_cells h).1, (slE_cells h).2]; rfl

theorem sized_s {sv : V} {sizes : List Int} {H : Heap} (hs : VI sv sizes) : Ans (.fn 39 [] []) [sv] H (.bool (sizes.all fun n => decide (1 ≤ n) && decide (n ≤ 6))) := by
  have hc := containsFunc_s (p := fun n => !(decide (1 ≤ n) && decide (n ≤ 6))) (i := 60) (fs := []) (cs := []) (H := H) hs (fun n _ => sized1_s n H)
  unfold Ans at hc ⊢
  rw [callL_fn, show tab 39 = some (.code F39) from rfl]
  have e : (sizes.all fun n => decide (1 ≤ n) && decide (n ≤ 6)) = !(sizes.any fun n => !(decide (1 ≤ n) && decide (n ≤ 6))) := by
    rw [List.all_eq_not_any_not]
  rw [e]
  simp [F39, callBody, zipE, execL_seq, execL_region, execL_cond, execL_skip, execL_ret, execL_exit, execL_block, execOps, wantedA, S_mv, S_pick, S_bin, S_un, S_call0, S_call1, S_extract, S_nilEq, S_load, S_alloc, S_box, Opd.ev, lookupE, setE, St.put, binA, unA, boolOf, freezeVs, freezeV, freeze1, isP, isPs, resultsA, resultA, finish, old, olds, flat, movedH_same, Nat.min_self, loadA, readCells, cellsV, hs.isP, hc]

def badCol (sizes : List Int) (c : Int) : Bool := decide (c < 0) || decide (c ≥ sizes.length)

theorem columned1_s {sv : V} {sizes : List Int} {H : Heap} {l : Nat} (hs : VI sv sizes) (hl : H[l]? = some (.cells [sv])) (c : Int) : Ans (.fn 61 [] [.ptr l 0]) [.int .i64 c] H (.bool (badCol sizes c)) := by
  unfold Ans badCol
  rw [callL_fn, show tab 61 = some (.code F61) from rfl]
  by_cases h : c < 0
  · simp [F61, callBody, zipE, execL_seq, execL_region, execL_cond, execL_skip, execL_ret, execL_exit, execL_block, execOps, wantedA, S_mv, S_pick, S_bin, S_un, S_call0, S_call1, S_extract, S_nilEq, S_load, S_alloc, S_box, Opd.ev, lookupE, setE, St.put, binA, unA, boolOf, freezeVs, freezeV, freeze1, isP, isPs, resultsA, resultA, finish, old, olds, flat, movedH_same, Nat.min_self, loadA, readCells, cellsV, hl, S_len 1, hs.sl, hs.len, h]
  · simp [F61, callBody, zipE, execL_seq, execL_region, execL_cond, execL_skip, execL_ret, execL_exit, execL_block, execOps, wantedA, S_mv, S_pick, S_bin, S_un, S_call0, S_call1, S_extract, S_nilEq, S_load, S_alloc, S_box, Opd.ev, lookupE, setE, St.put, binA, unA, boolOf, freezeVs, freezeV, freeze1, isP, isPs, resultsA, resultA, finish, old, olds, flat, movedH_same, Nat.min_self, loadA, readCells, cellsV, hl, S_len 1, hs.sl, hs.len, h]

theorem columned_s {sv cv : V} {sizes cols : List Int} {H : Heap} (hs : VI sv sizes) (hc : VI cv cols) : Ans (.fn 42 [] []) [sv, cv] H (.bool (decide (cols.length ≤ 3) && !cols.any (badCol sizes))) := by
  have hH : (H ++ [AObj.cells [sv]])[H.length]? = some (.cells [sv]) := by simp
  have hk := containsFunc_s (p := badCol sizes) (i := 61) (fs := []) (cs := [.ptr H.length 0]) (H := H ++ [.cells [sv]]) hc (fun c _ => columned1_s hs hH c)
  unfold Ans at hk ⊢
  rw [callL_fn, show tab 42 = some (.code F42) from rfl]
  simp only [List.length_append, List.length_cons, List.length_nil, Nat.zero_add] at hk
  by_cases h : cols.length ≤ 3
  · have h' : (cols.length : Int) ≤ 3 := by omega
    simp [F42, callBody, zipE, execL_seq, execL_region, execL_cond, execL_skip, execL_ret, execL_exit, execL_block, execOps, wantedA, S_mv, S_pick, S_bin, S_un, S_call0, S_call1, S_extract, S_nilEq, S_load, S_alloc, Opd.ev, lookupE, setE, St.put, binA, unA, boolOf, freezeVs, freezeV, freeze1, isP, isPs, resultsA, resultA, finish, old, olds, flat, movedH_same, Nat.min_self, loadA, readCells, cellsV_int, S_box_sl (es := 1), hs.sl, S_len 1, hc.sl, hc.len, h, h', S_mkFn, hc.isP, hk, min_succ]
  · have h' : ¬ (cols.length : Int) ≤ 3 := by omega
    simp [F42, callBody, zipE, execL_seq, execL_region, execL_cond, execL_skip, execL_ret, execL_exit, execL_block, execOps, wantedA, S_mv, S_pick, S_bin, S_un, S_call0, S_call1, S_extract, S_nilEq, S_load, S_alloc, Opd.ev, lookupE, setE, St.put, binA, unA, boolOf, freezeVs, freezeV, freeze1, isP, isPs, resultsA, resultA, finish, old, olds, flat, movedH_same, Nat.min_self, loadA, readCells, cellsV_int, S_box_sl (es := 1), hs.sl, S_len 1, hc.sl, hc.len, h, h', S_mkFn, hc.isP, hk, min_succ]

def dimsOf (sizes cols : List Int) : List Int := cols.map fun c => (sizes[c.toNat]?).getD 0
def prodI (l : List Int) : Int := l.foldl (· * ·) 1

theorem prodI_take {l : List Int} {k : Nat} {d : Int} (h : l[k]? = some d) : prodI (l.take (k + 1)) = prodI (l.take k) * d := by
  unfold prodI
  rw [List.take_add_one, h]
  simp

theorem width_s {sv cv : V} {sizes cols : List Int} {H : Heap} (hs : VI sv sizes) (hc : VI cv cols) (hin : ∀ c ∈ cols, 0 ≤ c ∧ c < sizes.length)
    (hb : ∀ k, k ≤ cols.length → 0 ≤ prodI ((dimsOf sizes cols).take k) ∧ prodI ((dimsOf sizes cols).take k) < 4611686018427387904) : Ans (.fn 34 [] []) [sv, cv] H (.int .i64 (prodI (dimsOf sizes cols))) := by
  unfold Ans
  have key := range_loop (tab := tab) (b := 11) (n := 9) (i := 10) (t := 20) (blk := 1) (ex := 0) (body := F34L0)
    (I := fun k st => st.H = H ∧ st.low = H.length ∧ lookupE st.vE 0 = sv ∧ lookupE st.vE 8 = cv ∧ lookupE st.vE 10 = .int .i64 k ∧ lookupE st.vE 9 = .int .i64 cols.length ∧ lookupE st.vE 5 = .int .i64 (prodI ((dimsOf sizes cols).take k)))
    (Q := fun x st => x = .exit 0 ∧ st.H = H ∧ st.low = H.length ∧ lookupE st.vE 5 = .int .i64 (prodI (dimsOf sizes cols)))
    (N := cols.length) hc.lt (by decide) (by decide)
    (fun k st h => ⟨h.2.2.2.2.1, h.2.2.2.2.2.1, by rw [h.1, h.2.1]; exact Nat.le_refl _⟩)
    (by
      rintro k st hk ⟨h1, h2, h3, h4, h5, h6, h7⟩
      obtain ⟨c, hcc⟩ : ∃ c, cols[k]? = some c := ⟨_, List.getElem?_eq_getElem hk⟩
      have hmem : c ∈ cols := List.mem_of_getElem? hcc
      obtain ⟨c0, c1⟩ := hin c hmem
      have hg := hc.get hcc
      have hlt : c.toNat < sizes.length := by omega
      obtain ⟨d, hd⟩ : ∃ d, sizes[c.toNat]? = some d := ⟨_, List.getElem?_eq_getElem hlt⟩
      have hgd := hs.get hd
      have hdim : (dimsOf sizes cols)[k]? = some d := by simp [dimsOf, hcc, hd]
      have hp := prodI_take hdim
      have hbk := hb (k + 1) (by omega)
      have hw : IntKind.i64.wrap (prodI ((dimsOf sizes cols).take k) * d) = prodI ((dimsOf sizes cols).take (k + 1)) := by rw [hp] at hbk ⊢; rw [wrap_small] <;> omega
      refine ⟨.normal, _, by simp [F34L0, callBody, zipE, execL_seq, execL_region, execL_cond, execL_skip, execL_ret, execL_exit, execL_block, execOps, wantedA, S_mv, S_pick, S_bin, S_un, S_call0, S_call1, S_extract, S_nilEq, S_load, S_alloc, S_box, Opd.ev, lookupE, lookE_setE, St.put, binA, unA, boolOf, freezeVs, freezeV, freeze1, isP, isPs, resultsA, resultA, finish, old, olds, flat, movedH_same, Nat.min_self, loadA, readCells, cellsV, h1, h2, h3, h4, h5, h6, h7, S_index, hc.sl, hs.sl, hg, natOf_nonneg _ c0, hgd, hw]; rfl, ?_⟩
      simp only [true_or, if_true, lookE_setE, h1, h2]
      exact ⟨by simp [h5], by simp, trivial, trivial, by simp [h3], by simp [h4], by simp, by simp [h6], by simp⟩)
    (by
      rintro st ⟨h1, h2, h3, h4, h5, h6, h7⟩
      refine ⟨rfl, h1, h2, ?_⟩
      rw [List.take_of_length_le (by simp [dimsOf])] at h7
      simp [lookE_setE, h7])
  obtain ⟨x, st', h1, rfl, h2, h3, h4⟩ := key cols.length 0 { tE := [], vE := [(0, sv), (1, cv), (4, .int .i64 0), (5, .int .i64 1), (8, cv), (9, .int .i64 cols.length), (10, .int .i64 0)], H := H, low := H.length } (by omega)
    ⟨rfl, rfl, rfl, rfl, rfl, rfl, rfl⟩
  rw [callL_fn, show tab 34 = some (.code F34) from rfl]
  simp [F34, callBody, zipE, execL_seq, execL_region, execL_cond, execL_skip, execL_ret, execL_exit, execL_block, execOps, wantedA, S_mv, S_pick, S_bin, S_un, S_call0, S_call1, S_extract, S_nilEq, S_load, S_alloc, S_box, Opd.ev, lookupE, setE, St.put, binA, unA, boolOf, freezeVs, freezeV, freeze1, isP, isPs, resultsA, resultA, finish, old, olds, flat, movedH_same, Nat.min_self, loadA, readCells, cellsV, S_len 1, hc.sl, hc.len, h1, h2, h3, h4, lookE_setE]

theorem clone_emp_s {H : Heap} : Ans (.fn 63 [] []) [.emp] H .emp := by
  unfold Ans
  rw [callL_fn, show tab 63 = some (.code F63) from rfl]
  simp [F63, callBody, zipE, execL_seq, execL_region, execL_cond, execL_skip, execL_ret, execL_exit, execL_block, execOps, wantedA, S_mv, S_pick, S_bin, S_un, S_call0, S_call1, S_extract, S_nilEq, S_load, S_alloc, S_box, Opd.ev, lookupE, setE, St.put, binA, unA, boolOf, freezeVs, freezeV, freeze1, isP, isPs, resultsA, resultA, finish, old, olds, flat, movedH_same, Nat.min_self, loadA, readCells, cellsV, nilEqA, S_lit, S_append, step, fillL, elems]

theorem isPs_ints (l : List Int) : isPs (l.map (V.int .i64)) = true := by induction l <;> simp_all [isPs, isP]
theorem freeze_ints (H : Heap) (low : Nat) (l : List Int) : freezeVs H low (l.map (V.int .i64)) = some (l.map (V.int .i64), H, low) := by induction l <;> simp_all [freezeVs, freezeV, isP]
theorem cellsOk_ints (l : List Int) : cellsOk ((l.map (V.int .i64)).flatMap cellsV) = true := by induction l <;> simp_all [cellsOk, cellOk, cellsV]

theorem cellsOk_ints2 (l : List Int) : cellsOk (l.map (V.int .i64)) = true := by induction l <;> simp_all [cellsOk, cellOk]

theorem clone_row_s {H : Heap} {l : Nat} {ds : List Int} (hl : H[l]? = some (.row 1 (ds.map (.int .i64)) false)) (hpos : ds ≠ []) (hlt : ds.length ≤ 1000) :
    Ans (.fn 63 [] []) [.sref l 1 0 ds.length ds.length] H (.list 1 (ds.map (.int .i64))) := by
  unfold Ans
  rw [callL_fn, show tab 63 = some (.code F63) from rfl]
  have hne : (ds.map (V.int .i64)).isEmpty = false := by cases ds <;> simp_all
  have hcap : ds.length * (8 + 1) ≤ 2 ^ 40 := by omega
  have hcap' : ds.length * 9 ≤ 1099511627776 := by omega
  have htk : List.take ds.length (ds.map (V.int .i64)) = ds.map (V.int .i64) := List.take_of_length_le (by simp)
  simp [F63, callBody, zipE, execL_seq, execL_region, execL_cond, execL_skip, execL_ret, execL_exit, execL_block, execOps, wantedA, S_mv, S_pick, S_bin, S_un, S_call0, S_call1, S_extract, S_nilEq, S_load, S_alloc, Opd.ev, lookupE, setE, St.put, binA, unA, boolOf, freezeVs, freezeV, freeze1, isP, isPs, resultsA, resultA, finish, old, olds, flat, movedH_same, Nat.min_self, loadA, readCells, cellsV_int, nilEqA, S_lit, S_append, step, fillL, elems, hl, freeze_ints, hne, hpos, cellsOk_ints, cellsOk_ints2, min_succ, hcap, hcap', isPs_ints, htk]

end Go.Abs.T09
/- What the parts of cells.Valid compute. -/
namespace Go.Abs.T09
open Go Go.Abs

section
variable {call : CallT} {ev : Opd → V} {H : Heap} {low : Nat}
theorem S_build (z : List V) (ps : List (Nat × Nat × Opd)) : stepC call ev H low (.build z ps) = step ev H low (.build z ps) := rfl
theorem S_eqAgg (neg : Bool) (ks : List Nat) (x y : Opd) : stepC call ev H low (.eqAgg neg ks x y) = step ev H low (.eqAgg neg ks x y) := rfl
theorem S_nilCheck (x : Opd) : stepC call ev H low (.nilCheck x) = step ev H low (.nilCheck x) := rfl
theorem S_copy (es : Nat) (a b : Opd) : stepC call ev H low (.copy es a b) = step ev H low (.copy es a b) := rfl
theorem S_conv (k : IntKind) (x : Opd) : stepC call ev H low (.conv k x) = step ev H low (.conv k x) := rfl
end

/-- A table: its columns as the executor has them, and as numbers. -/
structure Tb where
  name : List UInt8
  kind : Int
  cv : V
  cl : List Int
  lo : Int
  hi : Int
  first : Int

def Tb.cells (t : Tb) : List V := [.str t.name, .int .i64 t.kind, t.cv, .int .i64 t.lo, .int .i64 t.hi, .int .i64 t.first]
def Tb.v (t : Tb) : V := .agg t.cells

/-- What is known of a table. -/
structure TbOk (t : Tb) : Prop where
  cols : VI t.cv t.cl
  name : t.name.length < 4611686018427387904

theorem VI.cell {v : V} {l : List Int} (h : VI v l) : cellOk v = true := by
  have := (slE_cells h.sl).2
  simpa [cellsOk] using this

theorem Tb.len (t : Tb) : t.cells.length = 6 := rfl
theorem Tb.c0 (t : Tb) : t.cells[0]? = some (.str t.name) := rfl
theorem Tb.c1 (t : Tb) : t.cells[1]? = some (.int .i64 t.kind) := rfl
theorem Tb.c2 (t : Tb) : t.cells[2]? = some t.cv := rfl
theorem Tb.c3 (t : Tb) : t.cells[3]? = some (.int .i64 t.lo) := rfl
theorem Tb.c4 (t : Tb) : t.cells[4]? = some (.int .i64 t.hi) := rfl
theorem Tb.c5 (t : Tb) : t.cells[5]? = some (.int .i64 t.first) := rfl
theorem Tb.e0 (t : Tb) (h : 0 < t.cells.length) : t.cells[0]'h = .str t.name := rfl
theorem Tb.e1 (t : Tb) (h : 1 < t.cells.length) : t.cells[1]'h = .int .i64 t.kind := rfl
theorem Tb.e2 (t : Tb) (h : 2 < t.cells.length) : t.cells[2]'h = t.cv := rfl
theorem Tb.e3 (t : Tb) (h : 3 < t.cells.length) : t.cells[3]'h = .int .i64 t.lo := rfl
theorem Tb.e4 (t : Tb) (h : 4 < t.cells.length) : t.cells[4]'h = .int .i64 t.hi := rfl
theorem Tb.e5 (t : Tb) (h : 5 < t.cells.length) : t.cells[5]'h = .int .i64 t.first := rfl
theorem Tb.d3 (t : Tb) : (t.cells.drop 3).take 2 = [.int .i64 t.lo, .int .i64 t.hi] := rfl
theorem Tb.t6 (t : Tb) : t.cells.take 6 = t.cells := rfl
theorem cellsV_agg (vs : List V) : cellsV (.agg vs) = vs := rfl
theorem TbOk.cells {t : Tb} (h : TbOk t) : cellsOk t.cells = true := by
  simp [Tb.cells, cellsOk, h.cols.cell]
  simp [cellOk]
theorem TbOk.isP {t : Tb} (h : TbOk t) : isPs t.cells = true := by
  simp [Tb.cells, Go.Abs.isPs, h.cols.isP]
  simp [Go.Abs.isP]

def strictB (t : Tb) : Bool := t.kind == 0 || t.kind == 1

theorem isStrict_s {t : Tb} (ht : TbOk t) (H : Heap) : Ans (.fn 33 [] []) [t.v] H (.bool (strictB t)) := by
  unfold Ans
  have hc := ht.cols.cell
  rw [callL_fn, show tab 33 = some (.code F33) from rfl]
  cases h0 : (t.kind == 0) <;> cases h1 : (t.kind == 1) <;> simp [F33, callBody, zipE, execL_seq, execL_region, execL_cond, execL_skip, execL_ret, execL_exit, execL_block, execOps, wantedA, S_mv, S_pick, S_bin, S_un, S_call0, S_call1, S_extract, S_nilEq, S_load, S_alloc, Opd.ev, lookupE, setE, St.put, binA, unA, boolOf, freezeVs, freezeV, freeze1, isP, isPs, resultsA, resultA, finish, old, olds, flat, movedH_same, Nat.min_self, loadA, readCells, cellsV_int, S_box, S_fieldAddr, Tb.v, cellsV_agg, ht.cells, Tb.c1, Tb.e1, Tb.len, get_off, get_off0, h0, h1, strictB]

def rangedB (t : Tb) : Bool := if (t.kind == 1 || t.kind == 4 || t.kind == 5) then decide (t.lo ≤ t.hi) && decide (-9999 ≤ t.lo) && decide (t.hi ≤ 9999) else t.lo == 0 && t.hi == 1

set_option maxHeartbeats 1000000 in
theorem ranged_s {t : Tb} (ht : TbOk t) (H : Heap) : Ans (.fn 43 [] []) [t.v] H (.bool (rangedB t)) := by
  unfold Ans
  have hc := ht.cols.cell
  rw [callL_fn, show tab 43 = some (.code F43) from rfl]
  have e1 : ∀ x y : Int, decide (x ≥ y) = decide (y ≤ x) := fun _ _ => rfl
  by_cases hk : (t.kind == 1 || t.kind == 4 || t.kind == 5) = true
  · have hr : rangedB t = (decide (t.lo ≤ t.hi) && decide (-9999 ≤ t.lo) && decide (t.hi ≤ 9999)) := by simp only [rangedB, hk, if_true]
    rw [hr]
    cases a1 : decide (t.lo ≤ t.hi) <;> cases a2 : decide (-9999 ≤ t.lo) <;> cases h0 : (t.kind == 1) <;> cases h1 : (t.kind == 4) <;> cases h2 : (t.kind == 5) <;> first | (exfalso; rw [h0, h1, h2] at hk; cases hk; done) | simp [F43, callBody, zipE, execL_seq, execL_region, execL_cond, execL_skip, execL_ret, execL_exit, execL_block, execOps, wantedA, S_mv, S_pick, S_bin, S_un, S_call0, S_call1, S_extract, S_nilEq, S_load, S_alloc, Opd.ev, lookupE, setE, St.put, binA, unA, boolOf, freezeVs, freezeV, freeze1, isP, isPs, resultsA, resultA, finish, old, olds, flat, movedH_same, Nat.min_self, loadA, readCells, cellsV_int, S_box, S_fieldAddr, Tb.v, cellsV_agg, ht.cells, Tb.c1, Tb.e1, Tb.c3, Tb.e3, Tb.c4, Tb.e4, Tb.len, get_off, get_off0, h0, h1, h2, a1, a2, e1]
  · have h0 : (t.kind == 1) = false := by cases h : (t.kind == 1) <;> simp [h] at hk ⊢
    have h1 : (t.kind == 4) = false := by cases h : (t.kind == 4) <;> simp [h] at hk ⊢
    have h2 : (t.kind == 5) = false := by cases h : (t.kind == 5) <;> simp [h] at hk ⊢
    have hr : rangedB t = (t.lo == 0 && t.hi == 1) := by simp [rangedB, h0, h1, h2]
    rw [hr]
    cases a1 : (t.lo == 0) <;> cases a2 : (t.hi == 1) <;> simp [F43, callBody, zipE, execL_seq, execL_region, execL_cond, execL_skip, execL_ret, execL_exit, execL_block, execOps, wantedA, S_mv, S_pick, S_bin, S_un, S_call0, S_call1, S_extract, S_nilEq, S_load, S_alloc, Opd.ev, lookupE, setE, St.put, binA, unA, boolOf, freezeVs, freezeV, freeze1, isP, isPs, resultsA, resultA, finish, old, olds, flat, movedH_same, Nat.min_self, loadA, readCells, cellsV_int, S_box, S_fieldAddr, S_build, S_eqAgg, step, fillA, setCells, cellsOk, cellOk, eqCells, eqK, Tb.v, cellsV_agg, ht.cells, Tb.c1, Tb.e1, Tb.d3, Tb.len, get_off, get_off0, h0, h1, h2, a1, a2]

theorem index_bool_s (bs : List Bool) (H : Heap) (hl : bs.length < 4611686018427387904) : Ans (.fn 81 [] []) [.list 1 (bs.map .bool), .bool false] H (.int .i64 (match bs.findIdx? (fun b => !b) with | some k => (k : Int) | none => -1)) := by
  have hsl : slE 1 (V.list 1 (bs.map .bool)) = true := rfl
  have hel : el (V.list 1 (bs.map .bool)) = bs.map .bool := rfl
  unfold Ans
  have key := range_loop (tab := tab) (b := 9) (n := 7) (i := 8) (t := 18) (blk := 1) (ex := 0) (body := F81L0)
    (I := fun k st => st.H = H ∧ st.low = H.length ∧ lookupE st.vE 0 = .list 1 (bs.map .bool) ∧ lookupE st.vE 1 = .bool false ∧ lookupE st.vE 8 = .int .i64 k ∧ lookupE st.vE 7 = .int .i64 bs.length ∧ ∀ n ∈ bs.take k, (!n) = false)
    (Q := fun x st => st.H = H ∧ st.low = H.length ∧ ((x = .exit 0 ∧ bs.findIdx? (fun b => !b) = none) ∨ (x = .ret ∧ ∃ k, bs.findIdx? (fun b => !b) = some k ∧ lookupE st.vE 4 = .int .i64 k)))
    (N := bs.length) hl (by decide) (by decide)
    (fun k st h => ⟨h.2.2.2.2.1, h.2.2.2.2.2.1, by rw [h.1, h.2.1]; exact Nat.le_refl _⟩)
    (by
      rintro k st hk ⟨h1, h2, h3, h4, h5, h6, h7⟩
      obtain ⟨n, hn⟩ : ∃ n, bs[k]? = some n := ⟨_, List.getElem?_eq_getElem hk⟩
      have hg : (el (V.list 1 (bs.map .bool)))[k]? = some (.bool n) := by simp [el, hn]
      cases n with
      | true =>
        refine ⟨.normal, _, by simp [F81L0, callBody, zipE, execL_seq, execL_region, execL_cond, execL_skip, execL_ret, execL_exit, execL_block, execOps, wantedA, S_mv, S_pick, S_bin, S_un, S_call0, S_call1, S_extract, S_nilEq, S_load, S_alloc, S_box, Opd.ev, lookupE, lookE_setE, St.put, binA, unA, boolOf, freezeVs, freezeV, freeze1, isP, isPs, resultsA, resultA, finish, old, olds, flat, movedH_same, Nat.min_self, loadA, readCells, cellsV, h1, h2, h3, h4, h5, h6, S_index, hsl, hg, nilEqA, -List.getElem?_map]; rfl, ?_⟩
        simp only [true_or, if_true, lookE_setE, h1, h2]
        refine ⟨by simp [h5], by simp, by simp, by simp, by simp [h3], by simp [h4], by simp, by simp [h6], fun m hm => ?_⟩
        rw [List.take_add_one, hn] at hm
        simp at hm
        rcases hm with hm | rfl
        · exact h7 m hm
        · rfl
      | false =>
        refine ⟨.ret, _, by simp [F81L0, callBody, zipE, execL_seq, execL_region, execL_cond, execL_skip, execL_ret, execL_exit, execL_block, execOps, wantedA, S_mv, S_pick, S_bin, S_un, S_call0, S_call1, S_extract, S_nilEq, S_load, S_alloc, S_box, Opd.ev, lookupE, lookE_setE, St.put, binA, unA, boolOf, freezeVs, freezeV, freeze1, isP, isPs, resultsA, resultA, finish, old, olds, flat, movedH_same, Nat.min_self, loadA, readCells, cellsV, h1, h2, h3, h4, h5, h6, S_index, hsl, hg, nilEqA, -List.getElem?_map]; rfl, ?_⟩
        simp only [reduceCtorEq, or_self, if_false, h1, h2]
        refine ⟨trivial, trivial, .inr ⟨trivial, k, ?_, by simp [lookE_setE]⟩⟩
        rw [List.findIdx?_eq_some_iff_getElem]
        refine ⟨hk, ?_, fun j hj => ?_⟩
        · have : bs[k] = false := by rw [List.getElem?_eq_getElem hk] at hn; exact Option.some.inj hn
          rw [this]; rfl
        · have : bs[j] ∈ bs.take k := List.mem_take_iff_getElem.2 ⟨j, by omega, rfl⟩
          simp [h7 _ this])
    (by
      rintro st ⟨h1, h2, h3, h4, h5, h6, h7⟩
      refine ⟨h1, h2, .inl ⟨rfl, ?_⟩⟩
      rw [List.findIdx?_eq_none_iff]
      intro n hn
      exact h7 n (by rw [List.take_length]; exact hn))
  obtain ⟨x, st', h1, h2, h3, h4⟩ := key bs.length 0 { tE := [], vE := [(0, .list 1 (bs.map .bool)), (1, .bool false), (4, .int .i64 0), (7, .int .i64 bs.length), (8, .int .i64 0)], H := H, low := H.length } (by omega)
    ⟨rfl, rfl, rfl, rfl, rfl, rfl, fun m hm => by simp at hm⟩
  have hlen : (el (V.list 1 (bs.map .bool))).length = bs.length := by simp [el]
  rw [callL_fn, show tab 81 = some (.code F81) from rfl]
  rcases h4 with ⟨rfl, h4⟩ | ⟨rfl, k, h4, h5⟩
  · simp [F81, callBody, zipE, execL_seq, execL_region, execL_cond, execL_skip, execL_ret, execL_exit, execL_block, execOps, wantedA, S_mv, S_pick, S_bin, S_un, S_call0, S_call1, S_extract, S_nilEq, S_load, S_alloc, S_box, Opd.ev, lookupE, setE, St.put, binA, unA, boolOf, freezeVs, freezeV, freeze1, isP, isPs, resultsA, resultA, finish, old, olds, flat, movedH_same, Nat.min_self, loadA, readCells, cellsV, S_len 1, hsl, hlen, h1, h2, h3, h4, lookE_setE]
  · simp [F81, callBody, zipE, execL_seq, execL_region, execL_cond, execL_skip, execL_ret, execL_exit, execL_block, execOps, wantedA, S_mv, S_pick, S_bin, S_un, S_call0, S_call1, S_extract, S_nilEq, S_load, S_alloc, S_box, Opd.ev, lookupE, setE, St.put, binA, unA, boolOf, freezeVs, freezeV, freeze1, isP, isPs, resultsA, resultA, finish, old, olds, flat, movedH_same, Nat.min_self, loadA, readCells, cellsV, S_len 1, hsl, hlen, h1, h2, h3, h4, h5, lookE_setE]

theorem isPs_bools (l : List Bool) : isPs (l.map V.bool) = true := by induction l <;> simp_all [isPs, isP]

theorem all_s (bs : List Bool) (H : Heap) (hl : bs.length < 4611686018427387904) : Ans (.fn 38 [] []) [.list 1 (bs.map .bool)] H (.bool (bs.all id)) := by
  have hi := index_bool_s bs H hl
  have hp := isPs_bools bs
  have hc : Ans (.fn 58 [] []) [.list 1 (bs.map .bool), .bool false] H (.bool !(bs.all id)) := by
    unfold Ans at hi ⊢
    rw [callL_fn, show tab 58 = some (.code F58) from rfl]
    cases hz : bs.findIdx? (fun b => !b) with
    | none =>
      have ha : bs.all id = true := by
        rw [List.findIdx?_eq_none_iff] at hz
        rw [List.all_eq_true]; intro x hx; simpa using hz x hx
      rw [hz] at hi
      simp [F58, callBody, zipE, execL_seq, execL_region, execL_cond, execL_skip, execL_ret, execL_exit, execL_block, execOps, wantedA, S_mv, S_pick, S_bin, S_un, S_call0, S_call1, S_extract, S_nilEq, S_load, S_alloc, S_box, Opd.ev, lookupE, setE, St.put, binA, unA, boolOf, freezeVs, freezeV, freeze1, isP, isPs, resultsA, resultA, finish, old, olds, flat, movedH_same, Nat.min_self, loadA, readCells, cellsV, hp, hi, ha]
    | some k =>
      have ha : bs.all id = false := by
        rw [List.findIdx?_eq_some_iff_getElem] at hz
        obtain ⟨hk, hp, -⟩ := hz
        rw [List.all_eq_false]; exact ⟨_, List.getElem_mem hk, by simpa using hp⟩
      rw [hz] at hi
      simp [F58, callBody, zipE, execL_seq, execL_region, execL_cond, execL_skip, execL_ret, execL_exit, execL_block, execOps, wantedA, S_mv, S_pick, S_bin, S_un, S_call0, S_call1, S_extract, S_nilEq, S_load, S_alloc, S_box, Opd.ev, lookupE, setE, St.put, binA, unA, boolOf, freezeVs, freezeV, freeze1, isP, isPs, resultsA, resultA, finish, old, olds, flat, movedH_same, Nat.min_self, loadA, readCells, cellsV, hp, hi, ha]
  unfold Ans at hc ⊢
  rw [callL_fn, show tab 38 = some (.code F38) from rfl]
  simp [F38, callBody, zipE, execL_seq, execL_region, execL_cond, execL_skip, execL_ret, execL_exit, execL_block, execOps, wantedA, S_mv, S_pick, S_bin, S_un, S_call0, S_call1, S_extract, S_nilEq, S_load, S_alloc, S_box, Opd.ev, lookupE, setE, St.put, binA, unA, boolOf, freezeVs, freezeV, freeze1, isP, isPs, resultsA, resultA, finish, old, olds, flat, movedH_same, Nat.min_self, loadA, readCells, cellsV, hp, hc]
end Go.Abs.T09
/- The odometer of cells.Tuples. -/
namespace Go.Abs.T09
open Go Go.Abs

def isRow : V → Bool
  | .sref .. => true
  | _ => false

section
variable {call : CallT} {ev : Opd → V} {H : Heap} {low : Nat}
theorem S_lenR {x : Opd} (h : isRow (ev x) = true) : stepC call ev H low (.len 1 x) = match ev x with
    | .sref l es _ len tag => (match H[l]? with
      | some (.row es' ds _) => if es' = es ∧ ds.length = tag then some (.int .i64 len, H, low) else none
      | _ => none)
    | _ => none := by
  show step ev H low (.len 1 x) = _
  cases hx : ev x <;> simp_all [isRow, step]
  rename_i l _ _ _ _
  cases H[l]? with
  | none => rfl
  | some o => cases o <;> rfl
theorem S_indexR {es : Nat} {x i : Opd} (h : isRow (ev x) = true) : stepC call ev H low (.indexAddr es x i) = match natOf (ev i) with
    | some i => (match ev x with
      | .sref l es' off len tag => (match H[l]? with
        | some (.row es'' ds _) => if es' = es ∧ es'' = es ∧ ds.length = tag ∧ i < len ∧ off + len ≤ ds.length then some (.eptr l es (off + i) 0 tag, H, low) else none
        | _ => none)
      | _ => none)
    | none => none := by
  show step ev H low (.indexAddr es x i) = _
  cases hx : ev x <;> simp_all [isRow, step]
  rename_i l _ _ _ _
  cases natOf (ev i) with
  | none => rfl
  | some k =>
    cases H[l]? with
    | none => rfl
    | some o => cases o <;> rfl
end

def incAt (ds : List Int) : Nat → List Int → List Int
  | 0, t => t
  | i + 1, t => if (t[i]?).getD 0 + 1 < (ds[i]?).getD 0 then t.set i ((t[i]?).getD 0 + 1) else incAt ds i (t.set i 0)

theorem incAt_length (ds : List Int) : ∀ (i : Nat) (t : List Int), (incAt ds i t).length = t.length
  | 0, t => rfl
  | i + 1, t => by
    simp only [incAt]
    split
    · simp
    · rw [incAt_length ds i]; simp

def rowI (t : List Int) : AObj := .row 1 (t.map (.int .i64)) false

set_option maxHeartbeats 1000000 in
theorem inc_loop {sv cv : V} {sizes cols : List Int} (hs : VI sv sizes) (hc : VI cv cols) (hin : ∀ c ∈ cols, 0 ≤ c ∧ c < sizes.length) {n : Nat} (hn : cols.length = n) {o0 o3 : AObj} {B : Heap} :
    ∀ (i : Nat) (t : List Int) (st : St), t.length = n → i ≤ n → (∀ x ∈ t, -1000 ≤ x ∧ x ≤ 1000) → st.H = o0 :: .cells [sv] :: .cells [cv] :: o3 :: rowI t :: B → st.low ≤ st.H.length →
      lookupE st.vE 4 = .sref 4 1 0 n n → lookupE st.vE 5 = .int .i64 ((i : Int) - 1) → lookupE st.vE 2 = .ptr 1 0 → lookupE st.vE 1 = .ptr 2 0 →
      ∃ st', execL tab (.loop F62L0) st = some (.exit 2, st') ∧ st'.H = o0 :: .cells [sv] :: .cells [cv] :: o3 :: rowI (incAt (dimsOf sizes cols) i t) :: B ∧ st'.low ≤ st'.H.length ∧ st'.ro = st.ro ∧ ∀ s, s ≠ 5 → s ≠ 23 → s ≠ 43 → lookupE st'.vE s = lookupE st.vE s
  | 0, t, st, ht, hi, hx, h4, hl, l4, l5, l2, l1 => by
    rw [execL_loop]
    simp only [F62L0]
    refine ⟨_, by simp [callBody, zipE, execL_seq, execL_region, execL_cond, execL_skip, execL_ret, execL_exit, execL_block, execOps, wantedA, S_mv, S_pick, S_bin, S_un, S_call0, S_call1, S_extract, S_nilEq, S_load, S_alloc, Opd.ev, lookupE, lookE_setE, St.put, binA, unA, boolOf, freezeVs, freezeV, freeze1, isP, isPs, resultsA, resultA, finish, old, olds, flat, movedH_same, Nat.min_self, loadA, readCells, cellsV_int, l5]; rfl, ?_⟩
    simp only [incAt, lookE_setE]
    exact ⟨h4, by omega, trivial, fun s a b c => by simp [b]⟩
  | i + 1, t, st, ht, hi, hx, h4, hl, l4, l5, l2, l1 => by
    have hit : i < t.length := by omega
    obtain ⟨x, hxi⟩ : ∃ x, t[i]? = some x := ⟨_, List.getElem?_eq_getElem hit⟩
    have hxb := hx x (List.mem_of_getElem? hxi)
    obtain ⟨c, hcc⟩ : ∃ c, cols[i]? = some c := ⟨_, List.getElem?_eq_getElem (by omega)⟩
    obtain ⟨c0, c1⟩ := hin c (List.mem_of_getElem? hcc)
    obtain ⟨d, hd⟩ : ∃ d, sizes[c.toNat]? = some d := ⟨_, List.getElem?_eq_getElem (by omega)⟩
    have hdim : (dimsOf sizes cols)[i]? = some d := by simp [dimsOf, hcc, hd]
    have hgc := hc.get hcc
    have hgd := hs.get hd
    have e5 : ((i + 1 : Nat) : Int) - 1 = (i : Int) := by omega
    rw [e5] at l5
    have hw : IntKind.i64.wrap (x + 1) = x + 1 := by rw [wrap_small] <;> omega
    have hcl := hc.lt
    have hw2 : IntKind.i64.wrap ((i : Int) - 1) = (i : Int) - 1 := by rw [wrap_small] <;> omega
    have hge : (0 : Int) ≤ (i : Int) := by omega
    have hin' : i < n := by omega
    have hgi : (t.map (V.int .i64))[i]? = some (.int .i64 x) := by simp [hxi]
    have hlen : (t.map (V.int .i64)).length = n := by simp [ht]
    have hset : ((t.map (V.int .i64)).set i (.int .i64 (x + 1)))[i]? = some (.int .i64 (x + 1)) := by simp [hit]
    rw [execL_loop]
    simp only [rowI] at h4
    generalize hds : t.map (V.int .i64) = ds at *
    have hgE : ∀ h : i < ds.length, ds[i]'h = .int .i64 x := fun h => by rw [List.getElem?_eq_getElem h] at hgi; exact Option.some.inj hgi
    by_cases hxd : x + 1 < d
    · refine ⟨_, by simp [F62L0, callBody, zipE, execL_seq, execL_region, execL_cond, execL_skip, execL_ret, execL_exit, execL_block, execOps, wantedA, S_mv, S_pick, S_bin, S_un, S_call0, S_call1, S_extract, S_nilEq, S_load, S_alloc, Opd.ev, lookupE, lookE_setE, St.put, binA, unA, boolOf, freezeVs, freezeV, freeze1, isP, isPs, resultsA, resultA, finish, old, olds, flat, movedH_same, Nat.min_self, loadA, readCells, cellsV_int, l5, l4, l2, l1, h4, S_index, S_indexR, isRow, hc.sl, hs.sl, hlen, hgi, hgE, hset, hw, S_store, storeA, putElem, plainCells, plainCell, hge, hgc, hgd, natOf_nonneg _ c0, hin', inOrder, hxd, movedH]; rfl, ?_⟩
      simp only [incAt, hxi, hdim, Option.getD_some, hxd, if_true, lookE_setE]
      refine ⟨by simp [rowI, List.map_set, hds], by simp; omega, trivial, fun s a b c => by simp [b, c]⟩
    · have hstep : ∃ st1, execL tab F62L0 st = some (.normal, st1) ∧ st1.H = o0 :: .cells [sv] :: .cells [cv] :: o3 :: rowI (t.set i 0) :: B ∧ st1.low ≤ st1.H.length ∧ st1.ro = st.ro ∧ lookupE st1.vE 5 = .int .i64 ((i : Int) - 1) ∧
          ∀ s, s ≠ 5 → s ≠ 23 → s ≠ 43 → lookupE st1.vE s = lookupE st.vE s := by
        refine ⟨_, by simp [F62L0, callBody, zipE, execL_seq, execL_region, execL_cond, execL_skip, execL_ret, execL_exit, execL_block, execOps, wantedA, S_mv, S_pick, S_bin, S_un, S_call0, S_call1, S_extract, S_nilEq, S_load, S_alloc, Opd.ev, lookupE, lookE_setE, St.put, binA, unA, boolOf, freezeVs, freezeV, freeze1, isP, isPs, resultsA, resultA, finish, old, olds, flat, movedH_same, Nat.min_self, loadA, readCells, cellsV_int, l5, l4, l2, l1, h4, S_index, S_indexR, isRow, hc.sl, hs.sl, hlen, hgi, hgE, hset, hw, hw2, S_store, storeA, putElem, plainCells, plainCell, hge, hgc, hgd, natOf_nonneg _ c0, hin', inOrder, hxd, movedH]; rfl, ?_⟩
        simp only [lookE_setE]
        refine ⟨by simp [rowI, List.map_set, hds], by simp; omega, trivial, by simp, fun s a b c => by simp [a, b, c]⟩
      obtain ⟨st1, q1, q2, q3, q4, q5, q6⟩ := hstep
      rw [q1]
      obtain ⟨st', r1, r2, r3, r4, r5⟩ := inc_loop hs hc hin hn i (t.set i 0) st1 (by simp [ht]) (by omega) (fun y hy => by
          rcases List.mem_or_eq_of_mem_set hy with h | rfl
          · exact hx y h
          · omega) q2 q3 (by rw [q6 4 (by decide) (by decide) (by decide)]; exact l4) q5 (by rw [q6 2 (by decide) (by decide) (by decide)]; exact l2) (by rw [q6 1 (by decide) (by decide) (by decide)]; exact l1)
      refine ⟨st', r1, ?_, r3, r4.trans q4, fun s a b c => (r5 s a b c).trans (q6 s a b c)⟩
      rw [r2]
      simp only [incAt, hxi, hdim, Option.getD_some, if_neg hxd]
end Go.Abs.T09
/- A round of cells.Tuples: the tuple goes behind the others. -/
namespace Go.Abs.T09
open Go Go.Abs

theorem execL_low {c : ACode} {st st' : St} {x : X} (h : execL tab c st = some (x, st')) (hl : st.low ≤ st.H.length) : st'.low ≤ st.low := by
  obtain ⟨n, hn⟩ := execL_iff.1 h
  exact (exec_fr (callN_fr tab n) n _ _ _ _ hl hn).1.low

def outC (L : List V) : AObj := .cells [if L = [] then .nil0 else .sref 5 1 0 L.length L.length]
def outRow (L : List V) : Heap := if L = [] then [] else [.row 1 L false]
def loopO (env : Env) : AObj := .loop .ready .normal env [19] F17A0 F17B0
def heapS (sv cv : V) (env : Env) (t : List Int) (L : List V) : Heap := outC L :: .cells [sv] :: .cells [cv] :: loopO env :: rowI t :: outRow L

theorem cellOk_sref (l es o n t : Nat) : cellOk (.sref l es o n t) = true := rfl
theorem cellsV_sref (l es o n t : Nat) : cellsV (.sref l es o n t) = [.sref l es o n t] := rfl

set_option maxHeartbeats 1000000 in
theorem yield_step {sv cv : V} {env : Env} {t : List Int} {L : List V} {tv : V} (he : lookupE env 5 = .ptr 0 0) (hL : L.length ≤ 1000) (htp : isP tv = true) (htc : cellsV tv = [tv]) (hto : cellOk tv = true) :
    callL tab (.yield 3) [tv] (heapS sv cv env t L) = some (.bool true, heapS sv cv env t (L ++ [tv]), 0) := by
  rw [callL_yield]
  by_cases hE : L = []
  · subst hE
    simp [heapS, outC, outRow, loopO, yieldBody, F17A0, F17B0, callBody, zipE, execL_seq, execL_region, execL_cond, execL_skip, execL_ret, execL_exit, execL_block, execOps, wantedA, S_mv, S_pick, S_bin, S_un, S_call0, S_call1, S_extract, S_nilEq, S_load, S_alloc, Opd.ev, lookupE, lookE_setE, St.put, binA, unA, boolOf, freezeVs, freezeV, freeze1, isP, isPs, resultsA, resultA, finish, old, olds, flat, movedH_same, Nat.min_self, loadA, readCells, cellsV_int, he, S_lit, S_append, S_store, step, storeA, fillL, elems, zeroElem, htp, htc, hto, cellsOk, cellOk_sref, cellsV_sref, setCells, movedH, rowI]
  · have hcap : (L.length + 1) * 25 ≤ 1099511627776 := by omega
    simp [heapS, outC, outRow, loopO, yieldBody, F17A0, F17B0, callBody, zipE, execL_seq, execL_region, execL_cond, execL_skip, execL_ret, execL_exit, execL_block, execOps, wantedA, S_mv, S_pick, S_bin, S_un, S_call0, S_call1, S_extract, S_nilEq, S_load, S_alloc, Opd.ev, lookupE, lookE_setE, St.put, binA, unA, boolOf, freezeVs, freezeV, freeze1, isP, isPs, resultsA, resultA, finish, old, olds, flat, movedH_same, Nat.min_self, loadA, readCells, cellsV_int, he, S_lit, S_append, S_store, step, storeA, fillL, elems, zeroElem, htp, htc, hto, hE, hcap, cellsOk, cellOk_sref, cellsV_sref, setCells, movedH, rowI]

/-- Each number in the range of its place. -/
def InR (ds t : List Int) : Prop := t.length = ds.length ∧ ∀ (i : Nat) x d, t[i]? = some x → ds[i]? = some d → 0 ≤ x ∧ x < d

theorem InR.set {ds t : List Int} (h : InR ds t) {i : Nat} {y : Int} (hy : ∀ d, ds[i]? = some d → 0 ≤ y ∧ y < d) : InR ds (t.set i y) := by
  refine ⟨by simp [h.1], fun j x d hx hd => ?_⟩
  by_cases hij : i = j
  · subst hij
    rw [List.getElem?_set] at hx
    simp only [if_true] at hx
    split at hx
    · cases hx; exact hy d hd
    · cases hx
  · rw [List.getElem?_set_ne hij] at hx
    exact h.2 j x d hx hd

theorem InR.inc {ds : List Int} (hd : ∀ d ∈ ds, 1 ≤ d) : ∀ (i : Nat) (t : List Int), InR ds t → InR ds (incAt ds i t)
  | 0, t, h => h
  | i + 1, t, h => by
    simp only [incAt]
    split
    · rename_i hlt
      refine h.set fun d hdi => ?_
      rw [hdi] at hlt
      simp only [Option.getD_some] at hlt
      refine ⟨?_, hlt⟩
      cases hx : t[i]? with
      | none => simp
      | some x => have := (h.2 i x d hx hdi).1; simp; omega
    · refine InR.inc hd i _ (h.set fun d hdi => ⟨Int.le_refl _, ?_⟩)
      have := hd d (List.mem_of_getElem? hdi)
      omega

/-- The tuples one after the other. -/
def tk (ds : List Int) : Nat → List Int
  | 0 => List.replicate ds.length 0
  | k + 1 => incAt ds ds.length (tk ds k)
def tv (t : List Int) : V := .list 1 (t.map (.int .i64))
def Lk (ds : List Int) (k : Nat) : List V := (List.range k).map fun j => tv (tk ds j)

theorem tk_inR {ds : List Int} (hd : ∀ d ∈ ds, 1 ≤ d) : ∀ k, InR ds (tk ds k)
  | 0 => ⟨by simp [tk], fun i x d hx hdi => by
    simp only [tk] at hx
    rw [List.getElem?_replicate] at hx
    split at hx
    · cases hx; have := hd d (List.mem_of_getElem? hdi); omega
    · cases hx⟩
  | k + 1 => InR.inc hd _ _ (tk_inR hd k)

theorem tk_bound {ds : List Int} (hd : ∀ d ∈ ds, 1 ≤ d ∧ d ≤ 6) (k : Nat) : ∀ x ∈ tk ds k, -1000 ≤ x ∧ x ≤ 1000 := fun x hx => by
  obtain ⟨i, hi⟩ := List.getElem?_of_mem hx
  have hR := tk_inR (fun d h => (hd d h).1) k
  have hlt : i < (tk ds k).length := by
    rcases Nat.lt_or_ge i (tk ds k).length with h | h
    · exact h
    · simp [List.getElem?_eq_none h] at hi
  obtain ⟨d, hdi⟩ : ∃ d, ds[i]? = some d := ⟨_, List.getElem?_eq_getElem (by rw [← hR.1]; exact hlt)⟩
  have := hR.2 i x d hi hdi
  have := hd d (List.mem_of_getElem? hdi)
  omega

set_option maxHeartbeats 1000000 in
theorem tuples1_s {sv cv : V} {sizes cols : List Int} {env : Env} (hs : VI sv sizes) (hc : VI cv cols) (hin : ∀ c ∈ cols, 0 ≤ c ∧ c < sizes.length) (hd : ∀ d ∈ dimsOf sizes cols, 1 ≤ d ∧ d ≤ 6) (hne : cols ≠ []) (h3 : cols.length ≤ 3)
    (he : lookupE env 5 = .ptr 0 0) {W : Nat} (hW : prodI (dimsOf sizes cols) = W) (hW1 : W ≤ 1000) (hW0 : 1 ≤ W)
    (hb : ∀ k, k ≤ cols.length → 0 ≤ prodI ((dimsOf sizes cols).take k) ∧ prodI ((dimsOf sizes cols).take k) < 4611686018427387904) :
    ∃ low', callL tab (.fn 62 [] [.ptr 2 0, .ptr 1 0]) [.yield 3] [outC [], .cells [sv], .cells [cv], loopO env] = some (.tup [], heapS sv cv env (tk (dimsOf sizes cols) W) (Lk (dimsOf sizes cols) W), low') := by
  generalize hds : dimsOf sizes cols = ds at *
  have hdl : ds.length = cols.length := by rw [← hds]; simp [dimsOf]
  have hpos : 0 < cols.length := List.length_pos_iff.2 hne
  have key := range_loop (tab := tab) (b := 13) (n := 11) (i := 12) (t := 47) (blk := 1) (ex := 0) (body := F62L1)
    (I := fun k st => st.H = heapS sv cv env (tk ds k) (Lk ds k) ∧ st.low ≤ st.H.length ∧ lookupE st.vE 0 = .yield 3 ∧ lookupE st.vE 1 = .ptr 2 0 ∧ lookupE st.vE 2 = .ptr 1 0 ∧ lookupE st.vE 4 = .sref 4 1 0 cols.length cols.length ∧
      lookupE st.vE 12 = .int .i64 k ∧ lookupE st.vE 11 = .int .i64 W ∧ (0 < k → st.low = 0))
    (Q := fun x st => x = .exit 0 ∧ st.H = heapS sv cv env (tk ds W) (Lk ds W) ∧ st.low = 0)
    (N := W) (by omega) (by decide) (by decide)
    (fun k st h => ⟨h.2.2.2.2.2.2.1, h.2.2.2.2.2.2.2.1, h.2.1⟩)
    (by
      rintro k st hk ⟨q1, q2, q3, q4, q5, q6, q7, q8, -⟩
      have hlen : (tk ds k).length = cols.length := (tk_inR (fun d h => (hd d h).1) k).1.trans hdl
      have h4 : (heapS sv cv env (tk ds k) (Lk ds k))[4]? = some (.row 1 ((tk ds k).map (.int .i64)) false) := rfl
      have hcl := clone_row_s (ds := tk ds k) h4 (by intro e; rw [e] at hlen; simp at hlen; omega) (by omega)
      unfold Ans at hcl
      rw [hlen] at hcl
      have hy := yield_step (sv := sv) (cv := cv) (env := env) (t := tk ds k) (L := Lk ds k) (tv := tv (tk ds k)) he (by simp [Lk]; omega) rfl rfl rfl
      have hL : Lk ds k ++ [tv (tk ds k)] = Lk ds (k + 1) := by simp [Lk, List.range_succ]
      rw [hL] at hy
      simp only [tv] at hy
      have h4' : (heapS sv cv env (tk ds k) (Lk ds (k + 1)))[4]? = some (.row 1 ((tk ds k).map (.int .i64)) false) := rfl
      have hll : ∀ L, 0 < (heapS sv cv env (tk ds k) L).length := fun L => by simp [heapS]
      have hw : IntKind.i64.wrap ((cols.length : Int) - 1) = (cols.length : Int) - 1 := by rw [wrap_small] <;> omega
      -- up to the inner loop
      obtain ⟨st1, a1, a2, a3, a4, a5⟩ := inc_loop hs hc hin rfl (o0 := outC (Lk ds (k + 1))) (o3 := loopO env) (B := outRow (Lk ds (k + 1))) cols.length (tk ds k)
        { tE := [], vE := setE (setE (setE st.vE 13 (.bool true)) 18 (.bool false)) 5 (.int .i64 ((cols.length : Int) - 1)), H := heapS sv cv env (tk ds k) (Lk ds (k + 1)), low := 0, ro := st.ro } hlen (Nat.le_refl _) (tk_bound hd k) rfl (Nat.zero_le _)
        (by simp [lookE_setE, q6]) (by simp [lookE_setE]) (by simp [lookE_setE, q5]) (by simp [lookE_setE, q4])
      have alow := execL_low a1 (Nat.zero_le _)
      have hnot : ∀ L, (heapS sv cv env (tk ds k) L).length ≠ 0 := fun L => Nat.ne_of_gt (hll L)
      refine ⟨.normal, st1, by simp [F62L1, callBody, zipE, execL_seq, execL_region, execL_cond, execL_skip, execL_ret, execL_exit, execL_block, execOps, wantedA, S_mv, S_pick, S_bin, S_un, S_call0, S_call1, S_extract, S_nilEq, S_load, S_alloc, Opd.ev, lookupE, lookE_setE, St.put, binA, unA, boolOf, freezeVs, freezeV, freeze1, isP, isPs, resultsA, resultA, finish, old, olds, flat, movedH_same, Nat.min_self, loadA, readCells, cellsV_int, q1, q3, q6, hcl, hy, hll, hnot, S_lenR, isRow, h4', hlen, hw, a1], ?_⟩
      simp only [true_or, if_true]
      have hnext : st1.H = heapS sv cv env (tk ds (k + 1)) (Lk ds (k + 1)) := by
        rw [a2, hds]
        simp only [tk, hdl]
        rfl
      refine ⟨by rw [a5 12 (by decide) (by decide) (by decide)]; simp [lookE_setE, q7], a3, hnext, by rw [← hnext] at *; exact a3, ?_, ?_, ?_, ?_, ?_, ?_, fun _ => Nat.le_zero.1 alow⟩
      · simp only [lookE_setE]; rw [a5 0 (by decide) (by decide) (by decide)]; simp [lookE_setE, q3]
      · simp only [lookE_setE]; rw [a5 1 (by decide) (by decide) (by decide)]; simp [lookE_setE, q4]
      · simp only [lookE_setE]; rw [a5 2 (by decide) (by decide) (by decide)]; simp [lookE_setE, q5]
      · simp only [lookE_setE]; rw [a5 4 (by decide) (by decide) (by decide)]; simp [lookE_setE, q6]
      · simp [lookE_setE]
      · simp only [lookE_setE]; rw [a5 11 (by decide) (by decide) (by decide)]; simp [lookE_setE, q8])
    (by
      rintro st ⟨q1, q2, q3, q4, q5, q6, q7, q8, q9⟩
      exact ⟨rfl, q1, q9 (by omega)⟩)
  have hwid := width_s (H := heapS sv cv env (tk ds 0) []) hs hc hin (by rw [hds]; exact hb)
  unfold Ans at hwid
  rw [hds, hW] at hwid
  have hwid5 : callL tab (.fn 34 [] []) [sv, cv] (heapS sv cv env (tk ds 0) []) = some (.int .i64 W, heapS sv cv env (tk ds 0) [], 5) := hwid
  have hheap : [outC [], .cells [sv], .cells [cv], loopO env, AObj.row 1 (List.replicate cols.length (V.int .i64 0)) false] = heapS sv cv env (tk ds 0) [] := by
    simp [heapS, outRow, rowI, tk, hdl]
  obtain ⟨x, st', h1, rfl, h2, hlow⟩ := key W 0 { tE := [], vE := [(0, .yield 3), (1, .ptr 2 0), (2, .ptr 1 0), (4, .sref 4 1 0 cols.length cols.length), (11, .int .i64 W), (12, .int .i64 0)], H := heapS sv cv env (tk ds 0) [], low := 4 } (by omega)
    ⟨rfl, by simp [heapS], rfl, rfl, rfl, rfl, rfl, rfl, fun h => absurd h (by omega)⟩
  refine ⟨0, ?_⟩
  rw [callL_fn, show tab 62 = some (.code F62) from rfl]
  have hcap : (cols.length : Int) * 9 ≤ 1099511627776 := by omega
  have hnz : (cols.length : Int) ≠ 0 := by omega
  have hnz' : cols.length ≠ 0 := by omega
  have hnn : (0 : Int) ≤ (cols.length : Int) := by omega
  have g1 : (heapS sv cv env (tk ds 0) [])[1]? = some (.cells [sv]) := rfl
  have g2 : (heapS sv cv env (tk ds 0) [])[2]? = some (.cells [cv]) := rfl
  have g1E : ∀ h : 1 < (heapS sv cv env (tk ds 0) []).length, (heapS sv cv env (tk ds 0) [])[1]'h = .cells [sv] := fun _ => rfl
  have g2E : ∀ h : 2 < (heapS sv cv env (tk ds 0) []).length, (heapS sv cv env (tk ds 0) [])[2]'h = .cells [cv] := fun _ => rfl
  have gl : (heapS sv cv env (tk ds 0) []).length = 5 := rfl
  simp [F62, callBody, zipE, execL_seq, execL_region, execL_cond, execL_skip, execL_ret, execL_exit, execL_block, execOps, wantedA, S_mv, S_pick, S_bin, S_un, S_call0, S_call1, S_extract, S_nilEq, S_load, S_alloc, Opd.ev, lookupE, setE, St.put, binA, unA, boolOf, freezeVs, freezeV, freeze1, isP, isPs, resultsA, resultA, finish, old, olds, flat, movedH_same, Nat.min_self, loadA, readCells, cellsV_int, S_len 1, hc.sl, hs.sl, hc.len, S_mkSlice, step, hcap, hnz, hnz', hne, hnn, zeroElem, hheap, slE_isP hs.sl, slE_isP hc.sl, g1, g2, g1E, g2E, gl, hwid5, h1, h2, hlow]
end Go.Abs.T09
/- cells.Tuples. -/
namespace Go.Abs.T09
open Go Go.Abs

def heapE (sv cv : V) (env : Env) : Heap := [.cells [.sref 4 1 0 1 1], .cells [sv], .cells [cv], loopO env, .row 1 [.emp] false]

set_option maxHeartbeats 1000000 in
theorem yield_emp {sv cv : V} {env : Env} (he : lookupE env 5 = .ptr 0 0) : callL tab (.yield 3) [.emp] [outC [], .cells [sv], .cells [cv], loopO env] = some (.bool true, heapE sv cv env, 0) := by
  rw [callL_yield]
  simp [heapE, outC, loopO, yieldBody, F17A0, F17B0, callBody, zipE, execL_seq, execL_region, execL_cond, execL_skip, execL_ret, execL_exit, execL_block, execOps, wantedA, S_mv, S_pick, S_bin, S_un, S_call0, S_call1, S_extract, S_nilEq, S_load, S_alloc, Opd.ev, lookupE, lookE_setE, St.put, binA, unA, boolOf, freezeVs, freezeV, freeze1, isP, isPs, resultsA, resultA, finish, old, olds, flat, movedH_same, Nat.min_self, loadA, readCells, cellsV_int, he, S_lit, S_append, S_store, step, storeA, fillL, elems, zeroElem, cellsV, cellOk, cellsOk, setCells, movedH]

set_option maxHeartbeats 1000000 in
theorem tuples1_emp {sv cv : V} {sizes : List Int} {env : Env} (hs : VI sv sizes) (hc : VI cv []) (he : lookupE env 5 = .ptr 0 0) :
    callL tab (.fn 62 [] [.ptr 2 0, .ptr 1 0]) [.yield 3] [outC [], .cells [sv], .cells [cv], loopO env] = some (.tup [], heapE sv cv env, 0) := by
  have hcl := clone_emp_s (H := [outC [], .cells [sv], .cells [cv], loopO env])
  unfold Ans at hcl
  have hy := yield_emp (sv := sv) (cv := cv) he
  have key := range_loop (tab := tab) (b := 13) (n := 11) (i := 12) (t := 47) (blk := 1) (ex := 0) (body := F62L1)
    (I := fun k st => st.H = (if k = 0 then [outC [], .cells [sv], .cells [cv], loopO env] else heapE sv cv env) ∧ st.low ≤ st.H.length ∧ lookupE st.vE 0 = .yield 3 ∧ lookupE st.vE 4 = .emp ∧
      lookupE st.vE 12 = .int .i64 k ∧ lookupE st.vE 11 = .int .i64 1 ∧ (0 < k → st.low = 0))
    (Q := fun x st => x = .exit 0 ∧ st.H = heapE sv cv env ∧ st.low = 0)
    (N := 1) (by decide) (by decide) (by decide)
    (fun k st h => ⟨h.2.2.2.2.1, h.2.2.2.2.2.1, h.2.1⟩)
    (by
      rintro k st hk ⟨q1, q2, q3, q4, q5, q6, -⟩
      have hk0 : k = 0 := by omega
      subst hk0
      simp only [if_true] at q1
      have hw : IntKind.i64.wrap (-1) = -1 := rfl
      have hin : ∀ st0 : St, lookupE st0.vE 5 = .int .i64 (-1) → st0.low = 0 → ∃ st', execL tab (.loop F62L0) st0 = some (.exit 2, st') ∧ st'.H = st0.H ∧ st'.low = 0 ∧ ∀ s, s ≠ 23 → lookupE st'.vE s = lookupE st0.vE s := fun st0 h5 hl => by
        rw [execL_loop]
        simp only [F62L0]
        refine ⟨_, by simp [callBody, zipE, execL_seq, execL_region, execL_cond, execL_skip, execL_ret, execL_exit, execL_block, execOps, wantedA, S_mv, S_pick, S_bin, S_un, S_call0, S_call1, S_extract, S_nilEq, S_load, S_alloc, Opd.ev, lookupE, lookE_setE, St.put, binA, unA, boolOf, freezeVs, freezeV, freeze1, isP, isPs, resultsA, resultA, finish, old, olds, flat, movedH_same, Nat.min_self, loadA, readCells, cellsV_int, h5]; rfl, ?_⟩
        simp only [lookE_setE]
        exact ⟨trivial, by omega, fun s a => by simp [a]⟩
      obtain ⟨st', r1, r2, r3, r4⟩ := hin { tE := [], vE := setE (setE (setE st.vE 13 (.bool true)) 18 (.bool false)) 5 (.int .i64 (-1)), H := heapE sv cv env, low := 0, ro := st.ro } (by simp [lookE_setE]) rfl
      have hlen : (heapE sv cv env).length = 5 := rfl
      have hlen4 : ([outC [], .cells [sv], .cells [cv], loopO env] : Heap).length = 4 := rfl
      rw [hlen4] at hcl
      refine ⟨.normal, st', by simp [F62L1, callBody, zipE, execL_seq, execL_region, execL_cond, execL_skip, execL_ret, execL_exit, execL_block, execOps, wantedA, S_mv, S_pick, S_bin, S_un, S_call0, S_call1, S_extract, S_nilEq, S_load, S_alloc, Opd.ev, lookupE, lookE_setE, St.put, binA, unA, boolOf, freezeVs, freezeV, freeze1, isP, isPs, resultsA, resultA, finish, old, olds, flat, movedH_same, Nat.min_self, loadA, readCells, cellsV_int, q1, q3, q4, hcl, hy, S_len 1, slE, el, hw, r1, hlen], ?_⟩
      simp only [true_or, if_true]
      refine ⟨by rw [r4 12 (by decide)]; simp [lookE_setE, q5], by rw [r3]; omega, by rw [r2]; rfl, by rw [r3]; exact Nat.zero_le _, ?_, ?_, ?_, ?_, fun _ => r3⟩
      · simp only [lookE_setE]; rw [r4 0 (by decide)]; simp [lookE_setE, q3]
      · simp only [lookE_setE]; rw [r4 4 (by decide)]; simp [lookE_setE, q4]
      · simp [lookE_setE]
      · simp only [lookE_setE]; rw [r4 11 (by decide)]; simp [lookE_setE, q6])
    (by
      rintro st ⟨q1, q2, q3, q4, q5, q6, q7⟩
      exact ⟨rfl, q1, q7 (by omega)⟩)
  have hwid := width_s (H := [outC [], .cells [sv], .cells [cv], loopO env]) hs hc (fun c h => by cases h) (by intro k hk; simp at hk; subst hk; simp [prodI])
  unfold Ans at hwid
  have hp : prodI (dimsOf sizes []) = 1 := rfl
  have hlen4 : ([outC [], .cells [sv], .cells [cv], loopO env] : Heap).length = 4 := rfl
  rw [hp, hlen4] at hwid
  obtain ⟨x, st', h1, rfl, h2, hlow⟩ := key 1 0 { tE := [], vE := [(0, .yield 3), (1, .ptr 2 0), (2, .ptr 1 0), (4, .emp), (11, .int .i64 1), (12, .int .i64 0)], H := [outC [], .cells [sv], .cells [cv], loopO env], low := 4 } (by omega)
    ⟨rfl, by simp, rfl, rfl, rfl, rfl, fun h => absurd h (by omega)⟩
  rw [callL_fn, show tab 62 = some (.code F62) from rfl]
  have hl0 : (el cv).length = 0 := hc.len
  simp [F62, callBody, zipE, execL_seq, execL_region, execL_cond, execL_skip, execL_ret, execL_exit, execL_block, execOps, wantedA, S_mv, S_pick, S_bin, S_un, S_call0, S_call1, S_extract, S_nilEq, S_load, S_alloc, Opd.ev, lookupE, setE, St.put, binA, unA, boolOf, freezeVs, freezeV, freeze1, isP, isPs, resultsA, resultA, finish, old, olds, flat, movedH_same, Nat.min_self, loadA, readCells, cellsV_int, S_len 1, hc.sl, hs.sl, hl0, S_mkSlice, step, slE_isP hs.sl, slE_isP hc.sl, hwid, h1, h2, hlow]

theorem tuples44_s {sv cv : V} (h1 : slE 1 sv = true) (h2 : slE 1 cv = true) : callL tab (.fn 44 [] []) [sv, cv] [.cells [.nil0]] = some (.fn 62 [] [.ptr 2 0, .ptr 1 0], [.cells [.nil0], .cells [sv], .cells [cv]], 1) := by
  rw [callL_fn, show tab 44 = some (.code F44) from rfl]
  simp [F44, callBody, zipE, execL_seq, execL_region, execL_cond, execL_skip, execL_ret, execL_exit, execL_block, execOps, wantedA, S_mv, S_pick, S_bin, S_un, S_call0, S_call1, S_extract, S_nilEq, S_load, S_alloc, Opd.ev, lookupE, setE, St.put, binA, unA, boolOf, freezeVs, freezeV, freeze1, isP, isPs, resultsA, resultA, finish, old, olds, flat, movedH_same, Nat.min_self, loadA, readCells, cellsV_int, S_box_sl (es := 1), h1, h2, S_mkFn, movedH]

theorem tuples_bad {sv cv : V} {sizes cols : List Int} (hs : VI sv sizes) (hc : VI cv cols)
    (hbad : (decide (cols.length ≤ 3) && !cols.any (badCol sizes)) = false ∨ (sizes.all fun n => decide (1 ≤ n) && decide (n ≤ 6)) = false) : Ans (.fn 17 [] []) [sv, cv] [] .nil0 := by
  have hcol := columned_s (H := []) hs hc
  have hsz := sized_s (H := []) hs
  unfold Ans at hcol hsz ⊢
  rw [callL_fn, show tab 17 = some (.code F17) from rfl]
  generalize hb1 : (decide (cols.length ≤ 3) && !cols.any (badCol sizes)) = b1 at *
  generalize hb2 : (sizes.all fun n => decide (1 ≤ n) && decide (n ≤ 6)) = b2 at *
  simp only [List.length_nil] at hcol hsz
  cases b1 with
  | false => simp [F17, callBody, zipE, execL_seq, execL_region, execL_cond, execL_skip, execL_ret, execL_exit, execL_block, execOps, wantedA, S_mv, S_pick, S_bin, S_un, S_call0, S_call1, S_extract, S_nilEq, S_load, S_alloc, Opd.ev, lookupE, setE, St.put, binA, unA, boolOf, freezeVs, freezeV, freeze1, isP, isPs, resultsA, resultA, finish, old, olds, flat, movedH_same, Nat.min_self, loadA, readCells, cellsV_int, slE_isP hs.sl, slE_isP hc.sl, hcol]
  | true =>
    have : b2 = false := by simpa using hbad
    subst this
    simp [F17, callBody, zipE, execL_seq, execL_region, execL_cond, execL_skip, execL_ret, execL_exit, execL_block, execOps, wantedA, S_mv, S_pick, S_bin, S_un, S_call0, S_call1, S_extract, S_nilEq, S_load, S_alloc, Opd.ev, lookupE, setE, St.put, binA, unA, boolOf, freezeVs, freezeV, freeze1, isP, isPs, resultsA, resultA, finish, old, olds, flat, movedH_same, Nat.min_self, loadA, readCells, cellsV_int, slE_isP hs.sl, slE_isP hc.sl, hcol, hsz]

theorem Lk_isPs (ds : List Int) (k : Nat) : isPs (Lk ds k) = true := by
  unfold Lk
  generalize List.range k = l
  induction l with
  | nil => rfl
  | cons a l ih => simp only [List.map_cons, isPs, ih, Bool.and_true]; rfl

set_option maxHeartbeats 1000000 in
theorem tuples_good {sv cv : V} {sizes cols : List Int} (hs : VI sv sizes) (hc : VI cv cols) (hcol : (decide (cols.length ≤ 3) && !cols.any (badCol sizes)) = true) (hsz : (sizes.all fun n => decide (1 ≤ n) && decide (n ≤ 6)) = true)
    (hne : cols ≠ []) {W : Nat} (hW : prodI (dimsOf sizes cols) = W) (hW1 : W ≤ 1000) (hW0 : 1 ≤ W)
    (hb : ∀ k, k ≤ cols.length → 0 ≤ prodI ((dimsOf sizes cols).take k) ∧ prodI ((dimsOf sizes cols).take k) < 4611686018427387904)
    (hin : ∀ c ∈ cols, 0 ≤ c ∧ c < sizes.length) (hd : ∀ d ∈ dimsOf sizes cols, 1 ≤ d ∧ d ≤ 6) (h3 : cols.length ≤ 3) :
    Ans (.fn 17 [] []) [sv, cv] [] (.list 1 (Lk (dimsOf sizes cols) W)) := by
  have hcol' := columned_s (H := []) hs hc
  have hsz' := sized_s (H := []) hs
  have h44 := tuples44_s hs.sl hc.sl
  obtain ⟨low', h62⟩ := tuples1_s (env := [(0, sv), (1, cv), (4, .nil0), (15, .bool false), (5, .ptr 0 0), (18, .fn 62 [] [.ptr 2 0, .ptr 1 0])]) hs hc hin hd hne h3 rfl hW hW1 hW0 hb
  unfold Ans at hcol' hsz' ⊢
  rw [hcol] at hcol'; rw [hsz] at hsz'
  simp only [List.length_nil] at hcol' hsz'
  rw [callL_fn, show tab 17 = some (.code F17) from rfl]
  have hWne : Lk (dimsOf sizes cols) W ≠ [] := by intro e; have := congrArg List.length e; simp [Lk] at this; omega
  have hWl : (Lk (dimsOf sizes cols) W).length = W := by simp [Lk]
  have htk : List.take W (Lk (dimsOf sizes cols) W) = Lk (dimsOf sizes cols) W := List.take_of_length_le (by rw [hWl]; exact Nat.le_refl _)
  simp only [outC, loopO, if_true] at h62
  simp [F17, callBody, zipE, execL_seq, execL_region, execL_cond, execL_skip, execL_ret, execL_exit, execL_block, execOps, wantedA, S_mv, S_pick, S_bin, S_un, S_call0, S_call1, S_extract, S_nilEq, S_load, S_alloc, Opd.ev, lookupE, setE, St.put, binA, unA, boolOf, freezeVs, freezeV, freeze1, isP, isPs, resultsA, resultA, finish, old, olds, flat, movedH_same, Nat.min_self, loadA, readCells, cellsV_int, slE_isP hs.sl, slE_isP hc.sl, hcol', hsz', h44, execL_range, roOk, isFn, h62, heapS, outC, loopO, outRow, rowI, hWne, hWl, htk, Lk_isPs]

set_option maxHeartbeats 1000000 in
theorem tuples_emp {sv cv : V} {sizes : List Int} (hs : VI sv sizes) (hc : VI cv []) (hsz : (sizes.all fun n => decide (1 ≤ n) && decide (n ≤ 6)) = true) :
    Ans (.fn 17 [] []) [sv, cv] [] (.list 1 [.emp]) := by
  have hcol' := columned_s (H := []) hs hc
  have hsz' := sized_s (H := []) hs
  have h44 := tuples44_s hs.sl hc.sl
  have h62 := tuples1_emp (env := [(0, sv), (1, cv), (4, .nil0), (15, .bool false), (5, .ptr 0 0), (18, .fn 62 [] [.ptr 2 0, .ptr 1 0])]) hs hc rfl
  unfold Ans at hcol' hsz' ⊢
  rw [hsz] at hsz'
  have hcol : (decide (([] : List Int).length ≤ 3) && !([] : List Int).any (badCol sizes)) = true := rfl
  rw [hcol] at hcol'
  simp only [List.length_nil] at hcol' hsz'
  rw [callL_fn, show tab 17 = some (.code F17) from rfl]
  simp only [outC, loopO, if_true] at h62
  simp [F17, callBody, zipE, execL_seq, execL_region, execL_cond, execL_skip, execL_ret, execL_exit, execL_block, execOps, wantedA, S_mv, S_pick, S_bin, S_un, S_call0, S_call1, S_extract, S_nilEq, S_load, S_alloc, Opd.ev, lookupE, setE, St.put, binA, unA, boolOf, freezeVs, freezeV, freeze1, isP, isPs, resultsA, resultA, finish, old, olds, flat, movedH_same, Nat.min_self, loadA, readCells, cellsV_int, slE_isP hs.sl, slE_isP hc.sl, hcol', hsz', h44, execL_range, roOk, isFn, h62, heapE, loopO]
end Go.Abs.T09
/- The tuples rise, one by one, through all of them. -/
namespace Go.Abs.T09
open Go Go.Abs

/-- The number that the first places spell. -/
def valP (ds t : List Int) : Nat → Int
  | 0 => 0
  | i + 1 => valP ds t i * (ds[i]?).getD 0 + (t[i]?).getD 0
def prodP (ds : List Int) : Nat → Int
  | 0 => 1
  | i + 1 => prodP ds i * (ds[i]?).getD 0

theorem valP_congr {ds t r : List Int} : ∀ {i : Nat}, (∀ m, m < i → r[m]? = t[m]?) → valP ds r i = valP ds t i
  | 0, _ => rfl
  | i + 1, h => by simp only [valP]; rw [valP_congr fun m hm => h m (by omega), h i (by omega)]

theorem incAt_above (ds : List Int) : ∀ (i : Nat) (t : List Int) (m : Nat), i ≤ m → (incAt ds i t)[m]? = t[m]?
  | 0, t, m, _ => rfl
  | i + 1, t, m, h => by
    simp only [incAt]
    split
    · rw [List.getElem?_set_ne (by omega)]
    · rw [incAt_above ds i _ m (by omega), List.getElem?_set_ne (by omega)]

theorem incAt_val {ds : List Int} (hd : ∀ d ∈ ds, 1 ≤ d) : ∀ (i : Nat) (t : List Int), InR ds t → i ≤ ds.length → valP ds t i + 1 < prodP ds i →
    valP ds (incAt ds i t) i = valP ds t i + 1 ∧ ∃ (j : Nat) (x : Int), j < i ∧ t[j]? = some x ∧ (incAt ds i t)[j]? = some (x + 1) ∧ ∀ m, m < j → (incAt ds i t)[m]? = t[m]?
  | 0, t, _, _, h => by simp [valP, prodP] at h
  | i + 1, t, hR, hi, h => by
    obtain ⟨d, hdi⟩ : ∃ d, ds[i]? = some d := ⟨_, List.getElem?_eq_getElem (by omega)⟩
    have hil : i < t.length := by rw [hR.1]; omega
    obtain ⟨x, hx⟩ : ∃ x, t[i]? = some x := ⟨_, List.getElem?_eq_getElem hil⟩
    have hxd := hR.2 i x d hx hdi
    have hd1 := hd d (List.mem_of_getElem? hdi)
    simp only [valP, prodP, incAt, hdi, hx, Option.getD_some] at h ⊢
    by_cases hlt : x + 1 < d
    · simp only [hlt, if_true]
      refine ⟨?_, i, x, by omega, hx, by rw [List.getElem?_set_self hil], fun m hm => by rw [List.getElem?_set_ne (by omega)]⟩
      rw [valP_congr (r := t.set i (x + 1)) (t := t) fun m hm => by rw [List.getElem?_set_ne (by omega)], List.getElem?_set_self hil]
      simp only [Option.getD_some]; omega
    · simp only [hlt, if_false]
      have hxe : x + 1 = d := by omega
      have hR' : InR ds (t.set i 0) := hR.set fun d' h' => by rw [hdi] at h'; cases h'; omega
      have hv : valP ds (t.set i 0) i = valP ds t i := valP_congr fun m hm => by rw [List.getElem?_set_ne (by omega)]
      have hlow : valP ds (t.set i 0) i + 1 < prodP ds i := by
        rw [hv]
        have e : valP ds t i * d + x + 1 = (valP ds t i + 1) * d := by rw [Int.add_mul]; omega
        rw [e] at h
        exact Int.lt_of_mul_lt_mul_right h (by omega)
      obtain ⟨a1, j, y, b1, b2, b3, b4⟩ := incAt_val hd i (t.set i 0) hR' (by omega) hlow
      have h0 : (incAt ds i (t.set i 0))[i]? = some 0 := by rw [incAt_above ds i _ i (Nat.le_refl _), List.getElem?_set_self hil]
      refine ⟨?_, j, y, by omega, by rw [List.getElem?_set_ne (by omega)] at b2; exact b2, b3, fun m hm => by rw [b4 m hm, List.getElem?_set_ne (by omega)]⟩
      rw [h0, a1, hv]
      simp only [Option.getD_some]
      have : (valP ds t i + 1) * d = valP ds t i * d + d := by rw [Int.add_mul]; omega
      omega

theorem prodP_take (ds : List Int) : ∀ i, i ≤ ds.length → prodP ds i = prodI (ds.take i)
  | 0, _ => by simp [prodP, prodI]
  | i + 1, h => by
    obtain ⟨d, hdi⟩ : ∃ d, ds[i]? = some d := ⟨_, List.getElem?_eq_getElem (by omega)⟩
    rw [prodI_take hdi, ← prodP_take ds i (by omega)]
    simp [prodP, hdi]

theorem tk_val {ds : List Int} (hd : ∀ d ∈ ds, 1 ≤ d) : ∀ k : Nat, (k : Int) < prodI ds → valP ds (tk ds k) ds.length = k
  | 0, _ => by
    have : ∀ i, valP ds (List.replicate ds.length 0) i = 0 := by
      intro i
      induction i with
      | zero => rfl
      | succ i ih =>
        simp only [valP, ih, List.getElem?_replicate]
        split <;> simp
    simpa [tk] using this ds.length
  | k + 1, h => by
    have ih := tk_val hd k (by omega)
    have hp : prodP ds ds.length = prodI ds := by rw [prodP_take ds _ (Nat.le_refl _), List.take_length]
    have := (incAt_val hd ds.length (tk ds k) (tk_inR hd k) (Nat.le_refl _) (by rw [ih, hp]; omega)).1
    simp only [tk]
    rw [this, ih]; omega

/-- Each tuple rises above the one before it. -/
theorem tk_rises {ds : List Int} (hd : ∀ d ∈ ds, 1 ≤ d) {k : Nat} (hk : ((k + 1 : Nat) : Int) < prodI ds) :
    ∃ (j : Nat) (x : Int), j < ds.length ∧ (tk ds k)[j]? = some x ∧ (tk ds (k + 1))[j]? = some (x + 1) ∧ ∀ m, m < j → (tk ds (k + 1))[m]? = (tk ds k)[m]? := by
  have hp : prodP ds ds.length = prodI ds := by rw [prodP_take ds _ (Nat.le_refl _), List.take_length]
  exact (incAt_val hd ds.length (tk ds k) (tk_inR hd k) (Nat.le_refl _) (by rw [tk_val hd k (by omega), hp]; omega)).2

/-! ### slices.Compare -/

theorem compareL_s {a b : V} {t r : List Int} {H : Heap} (ha : VI a t) (hb : VI b r) {j : Nat} {x : Int} (h1 : t[j]? = some x) (h2 : r[j]? = some (x + 1)) (h3 : ∀ m, m < j → r[m]? = t[m]?) :
    Ans (.fn 28 [] []) [a, b] H (.int .i64 (-1)) := by
  unfold Ans
  have hjt : j < t.length := by
    rcases Nat.lt_or_ge j t.length with h | h
    · exact h
    · simp [List.getElem?_eq_none h] at h1
  have hjr : j < r.length := by
    rcases Nat.lt_or_ge j r.length with h | h
    · exact h
    · simp [List.getElem?_eq_none h] at h2
  have key := range_loop (tab := tab) (b := 12) (n := 10) (i := 11) (t := 30) (blk := 1) (ex := 0) (body := F28L0)
    (I := fun k st => st.H = H ∧ st.low = H.length ∧ lookupE st.vE 1 = b ∧ lookupE st.vE 9 = a ∧ lookupE st.vE 11 = .int .i64 k ∧ lookupE st.vE 10 = .int .i64 t.length ∧ k ≤ j)
    (Q := fun x st => x = .ret ∧ st.H = H ∧ st.low = H.length ∧ lookupE st.vE 4 = .int .i64 (-1))
    (N := t.length) ha.lt (by decide) (by decide)
    (fun k st h => ⟨h.2.2.2.2.1, h.2.2.2.2.2.1, by rw [h.1, h.2.1]; exact Nat.le_refl _⟩)
    (by
      rintro k st hk ⟨q1, q2, q3, q4, q5, q6, q7⟩
      obtain ⟨y, hy⟩ : ∃ y, t[k]? = some y := ⟨_, List.getElem?_eq_getElem hk⟩
      obtain ⟨z, hz⟩ : ∃ z, r[k]? = some z := ⟨_, List.getElem?_eq_getElem (by omega)⟩
      have hga := ha.get hy
      have hgb := hb.get hz
      have hkr : ¬ (k : Int) ≥ r.length := by omega
      have hkr' : ¬ (r.length : Int) ≤ k := by omega
      have hcmp := compare_s y z H
      have hkn : (0 : Int) ≤ (k : Int) := by omega
      by_cases hkj : k = j
      · subst hkj
        rw [h1] at hy; cases hy
        rw [h2] at hz; cases hz
        have hc1 : cmpI x (x + 1) = -1 := by unfold cmpI; rw [if_pos (by omega)]
        rw [hc1] at hcmp
        refine ⟨.ret, _, by simp [F28L0, callBody, zipE, execL_seq, execL_region, execL_cond, execL_skip, execL_ret, execL_exit, execL_block, execOps, wantedA, S_mv, S_pick, S_bin, S_un, S_call0, S_call1, S_extract, S_nilEq, S_load, S_alloc, S_box, Opd.ev, lookupE, lookE_setE, St.put, binA, unA, boolOf, freezeVs, freezeV, freeze1, isP, isPs, resultsA, resultA, finish, old, olds, flat, movedH_same, Nat.min_self, loadA, readCells, cellsV, q1, q2, q3, q4, q5, q6, S_index, S_len 1, ha.sl, hb.sl, hb.len, hga, hgb, hkr, hkr', hcmp]; rfl, ?_⟩
        simp only [reduceCtorEq, or_self, if_false, q1, q2]
        exact ⟨trivial, trivial, by simp, by simp [lookE_setE]⟩
      · have hyz : y = z := by
          have := h3 k (by omega)
          rw [hy, hz] at this; exact (Option.some.inj this).symm
        subst hyz
        have hc0 : cmpI y y = 0 := by unfold cmpI; simp
        rw [hc0] at hcmp
        refine ⟨.normal, _, by simp [F28L0, callBody, zipE, execL_seq, execL_region, execL_cond, execL_skip, execL_ret, execL_exit, execL_block, execOps, wantedA, S_mv, S_pick, S_bin, S_un, S_call0, S_call1, S_extract, S_nilEq, S_load, S_alloc, S_box, Opd.ev, lookupE, lookE_setE, St.put, binA, unA, boolOf, freezeVs, freezeV, freeze1, isP, isPs, resultsA, resultA, finish, old, olds, flat, movedH_same, Nat.min_self, loadA, readCells, cellsV, q1, q2, q3, q4, q5, q6, S_index, S_len 1, ha.sl, hb.sl, hb.len, hga, hgb, hkr, hkr', hcmp]; rfl, ?_⟩
        simp only [true_or, if_true, lookE_setE, q1, q2]
        exact ⟨by simp [q5], by simp, by simp, by simp, by simp [q3], by simp [q4], by simp, by simp [q6], by omega⟩)
    (by
      rintro st ⟨q1, q2, q3, q4, q5, q6, q7⟩
      omega)
  obtain ⟨x', st', h4, rfl, h5, h6, h7⟩ := key t.length 0 { tE := [], vE := [(0, a), (1, b), (4, .int .i64 0), (9, a), (10, .int .i64 t.length), (11, .int .i64 0)], H := H, low := H.length } (by omega)
    ⟨rfl, rfl, rfl, rfl, rfl, rfl, Nat.zero_le _⟩
  rw [callL_fn, show tab 28 = some (.code F28) from rfl]
  simp [F28, callBody, zipE, execL_seq, execL_region, execL_cond, execL_skip, execL_ret, execL_exit, execL_block, execOps, wantedA, S_mv, S_pick, S_bin, S_un, S_call0, S_call1, S_extract, S_nilEq, S_load, S_alloc, S_box, Opd.ev, lookupE, setE, St.put, binA, unA, boolOf, freezeVs, freezeV, freeze1, isP, isPs, resultsA, resultA, finish, old, olds, flat, movedH_same, Nat.min_self, loadA, readCells, cellsV, S_len 1, ha.sl, ha.len, h4, h5, h6, h7]
end Go.Abs.T09
