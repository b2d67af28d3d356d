/- cells.Ranges and cells.Count. -/
import Derived.Test.YteiajndkjnlmiaaGreatDoorP09
import Derived.Test.YteiajndkjnlmiaaGreatDoorP06
import Derived.Test.YteiajndkjnlmiaaGreatDoorP07
import Derived.Test.YteiajndkjnlmiaaGreatDoorP08
set_option linter.unusedVariables false
set_option linter.unusedSimpArgs false
namespace Go.Abs.T09
open Go Go.Abs

/-- The ranges of all cells of one kind. -/
def rngs (b : Bool) (sizes : List Int) (ts : List Tb) : List V := (ts.map fun t => if strictB t == b then List.replicate (wid sizes t).toNat (rngV t.lo t.hi) else []).flatten
theorem rngs_succ {b : Bool} {sizes : List Int} {ts : List Tb} {k : Nat} {t : Tb} (h : ts[k]? = some t) : rngs b sizes (ts.take (k + 1)) = rngs b sizes (ts.take k) ++ if strictB t == b then List.replicate (wid sizes t).toNat (rngV t.lo t.hi) else [] := by
  unfold rngs
  rw [List.take_add_one, h]
  simp
theorem rngs_len {sizes : List Int} {ts : List Tb} (hV : Valid sizes ts) (b : Bool) : ∀ k, ((rngs b sizes (ts.take k)).length : Int) = sumB b sizes (ts.take k)
  | 0 => by simp [rngs, sumB]
  | k + 1 => by
    have ih := rngs_len hV b k
    cases e : ts[k]? with
    | none =>
      have hle := List.getElem?_eq_none_iff.1 e
      have e1 : ts.take (k + 1) = ts := List.take_of_length_le (by omega)
      have e2 : ts.take k = ts := List.take_of_length_le hle
      rw [e2] at ih; rw [e1]; exact ih
    | some t =>
      have := hV.widb e
      rw [rngs_succ e, sumB_succ e, List.length_append]
      split
      · simp; omega
      · simp; omega
theorem rngs_isPs (b : Bool) (sizes : List Int) (ts : List Tb) : isPs (rngs b sizes ts) = true := by
  have app : ∀ (x y : List V), isPs x = true → isPs y = true → isPs (x ++ y) = true := by
    intro x y hx hy
    induction x with
    | nil => exact hy
    | cons v x ih => simp only [isPs, Bool.and_eq_true] at hx; simp only [List.cons_append, isPs, hx.1, ih hx.2]; rfl
  have rep : ∀ m a c, isPs (List.replicate m (rngV a c)) = true := by
    intro m a c
    induction m with
    | zero => rfl
    | succ m ih => rw [List.replicate_succ]; simp only [isPs, ih, Bool.and_true]; rfl
  unfold rngs
  induction ts with
  | nil => rfl
  | cons t ts ih =>
    simp only [List.map_cons, List.flatten_cons]
    refine app _ _ ?_ ih
    split
    · exact rep _ _ _
    · rfl

/-- What the loop holds so far. -/
def OutAt (n0 : Nat) (H : Heap) (v : V) (l : List V) : Prop := (l = [] ∧ v = .nil0) ∨ (l ≠ [] ∧ ∃ q, n0 ≤ q ∧ v = .sref q 2 0 l.length l.length ∧ H[q]? = some (.row 2 l false))

theorem OutAt.app {n0 : Nat} {H : Heap} {v : V} {l : List V} (h : OutAt n0 H v l) (t : Heap) : OutAt n0 (H ++ t) v l := by
  rcases h with h | ⟨a, q, b, c, d⟩
  · exact .inl h
  · exact .inr ⟨a, q, b, c, get_app d t⟩

def F31Pa : ACode := .region [⟨some (18, false), .indexAddr 6 (.var 14) (.var 16), none⟩, ⟨some (19, false), .load (some 6) (.tmp 18), none⟩, ⟨some (9, true), .alloc [.str [], .int .i64 0, .nil0, .int .i64 0, .int .i64 0, .int .i64 0], none⟩, ⟨none, .store 6 (.var 9) (.tmp 19), none⟩] none
def F31Pb : ACode := .region [⟨some (20, false), .load (some 6) (.var 9), none⟩, ⟨some (21, false), .call false (.func 33) [(.tmp 20)], none⟩, ⟨some (22, false), .mv (.var 2), none⟩, ⟨some (23, true), .nilEq 4 false (.tmp 21) (.tmp 22), none⟩] none
def F31Pc : ACode := .cond (.var 23) (.region [⟨some (24, false), .mv (.var 7), none⟩, ⟨some (25, false), .fieldAddr 3 (.var 9), none⟩, ⟨some (26, false), .load (some 2) (.tmp 25), none⟩, ⟨some (27, false), .lit 2 [.int .i64 0, .int .i64 0] 1 [(0, (.tmp 26))] true, none⟩, ⟨some (28, false), .mv (.var 0), none⟩, ⟨some (29, false), .fieldAddr 2 (.var 9), none⟩, ⟨some (30, false), .load none (.tmp 29), none⟩, ⟨some (31, false), .call false (.func 34) [(.tmp 28), (.tmp 30)], none⟩, ⟨some (32, false), .call false (.func 57) [(.tmp 27), (.tmp 31)], none⟩, ⟨some (33, false), .append 2 16 (.tmp 24) (.tmp 32), none⟩, ⟨some (7, true), .mv (.tmp 33), none⟩] (some [0, 0, 2, 6, 0, 0, 32, 112, 254, 511, 1023])) (.skip)
theorem F31L0_parts : F31L0 = .seq F31Pa (.seq F31Pb (F31Pc)) := rfl

theorem execL_len {c : ACode} {st st' : St} {x : X} (h : execL tab c st = some (x, st')) (hl : st.low ≤ st.H.length) : st.H.length ≤ st'.H.length := by
  obtain ⟨n, hn⟩ := execL_iff.1 h
  exact (exec_fr (callN_fr tab n) n _ _ _ _ hl hn).1.len
theorem freezeVs_isPs (H : Heap) (low : Nat) (l : List V) (h : isPs l = true) : freezeVs H low l = some (l, H, low) := by
  induction l with
  | nil => rfl
  | cons v l ih =>
    simp only [isPs, Bool.and_eq_true] at h
    simp only [freezeVs, freezeV, h.1, if_true, ih h.2]
theorem cellsOk_rep (m : Nat) (a b : Int) : cellsOk ((List.replicate m (rngV a b)).flatMap cellsV) = true := by
  induction m with
  | zero => rfl
  | succ m ih => rw [List.replicate_succ, List.flatMap_cons]; simp [rngV, cellsV, cellsOk, cellOk] at ih ⊢; exact ih
theorem isPs_rep (m : Nat) (a c : Int) : isPs (List.replicate m (rngV a c)) = true := by
  induction m with
  | zero => rfl
  | succ m ih => rw [List.replicate_succ]; simp only [isPs, ih, Bool.and_true]; rfl

theorem rg_a {tv : V} {k n : Nat} {t : Tb} {H : Heap} {st : St} (hsl : slE 6 tv = true) (hg : (el tv)[k]? = some t.v) (ht : TbOk t) (h1 : st.H = H) (hlow : n ≤ st.low) (hn : n ≤ H.length) (l14 : lookupE st.vE 14 = tv) (l16 : lookupE st.vE 16 = .int .i64 k) :
    ∃ st', execL tab F31Pa st = some (.normal, st') ∧ st'.H = H ++ [.cells t.cells] ∧ n ≤ st'.low ∧ lookupE st'.vE 9 = .ptr H.length 0 ∧ ∀ s, s ≠ 9 → lookupE st'.vE s = lookupE st.vE s := by
  have hco := ht.cells
  have hset : setCells [V.str [], .int .i64 0, .nil0, .int .i64 0, .int .i64 0, .int .i64 0] 0 t.cells = t.cells := rfl
  refine ⟨_, by simp [F31Pa, callBody, zipE, execL_seq, execL_region, execL_cond, execL_skip, execL_ret, execL_exit, execL_block, execOps, wantedA, S_mv, S_pick, S_bin, S_un, S_call0, S_call1, S_extract, S_nilEq, S_load, S_alloc, Opd.ev, lookupE, lookE_setE, St.put, binA, unA, boolOf, freezeVs, freezeV, freeze1, isP, isPs, resultsA, resultA, finish, old, olds, flat, movedH_same, Nat.min_self, loadA, readCells, cellsV_int, l14, l16, S_index, hsl, hg, Tb.v, cellsV_agg, Tb.len, Tb.t6, S_store, storeA, hco, hset, h1]; rfl, ?_⟩
  exact ⟨by simp, by simp; omega, by simp [lookE_setE], fun s hs => by simp [lookE_setE, hs]⟩
theorem rg_b {p n : Nat} {strict : Bool} {t : Tb} {H : Heap} {st : St} (ht : TbOk t) (h1 : st.H = H) (hlow : n ≤ st.low) (hn : n ≤ H.length) (hp : H[p]? = some (.cells t.cells)) (l2 : lookupE st.vE 2 = .bool strict) (l9 : lookupE st.vE 9 = .ptr p 0) :
    ∃ st', execL tab F31Pb st = some (.normal, st') ∧ st'.H = H ∧ n ≤ st'.low ∧ lookupE st'.vE 23 = .bool (strictB t == strict) ∧ ∀ s, s ≠ 23 → lookupE st'.vE s = lookupE st.vE s := by
  have hpE : ∀ h : p < H.length, H[p]'h = .cells t.cells := fun h => by rw [List.getElem?_eq_getElem h] at hp; exact Option.some.inj hp
  have c1 : callL tab (.fn 33 [] []) [.agg t.cells] H = some (.bool (strictB t), H, H.length) := isStrict_s ht H
  refine ⟨_, by simp [F31Pb, callBody, zipE, execL_seq, execL_region, execL_cond, execL_skip, execL_ret, execL_exit, execL_block, execOps, wantedA, S_mv, S_pick, S_bin, S_un, S_call0, S_call1, S_extract, S_nilEq, S_load, S_alloc, Opd.ev, lookupE, lookE_setE, St.put, binA, unA, boolOf, freezeVs, freezeV, freeze1, isP, isPs, resultsA, resultA, finish, old, olds, flat, movedH_same, Nat.min_self, loadA, readCells, cellsV_int, l2, l9, hp, hpE, h1, Tb.t6, Tb.len, ht.isP, c1, nilEqA]; rfl, rfl, ?_⟩
  exact ⟨by simp; omega, by simp [lookE_setE], fun s hs => by simp [lookE_setE, hs]⟩

set_option maxHeartbeats 2000000 in
theorem rg_c {p n : Nat} {sizes : List Int} {sv : V} {t : Tb} {H : Heap} {st : St} {l : List V} (hs : VI sv sizes) (ht : TbOk t) (hok : sizes.all okSize = true) (hgc : goodCols sizes t.cl = true) (h1 : st.H = H) (hlow : n ≤ st.low) (hlow2 : st.low ≤ H.length) (hn : n ≤ H.length) (hp : H[p]? = some (.cells t.cells)) (hl : l.length ≤ 100000)
    (l0 : lookupE st.vE 0 = sv) (l9 : lookupE st.vE 9 = .ptr p 0) (l23 : lookupE st.vE 23 = .bool true) (hO : OutAt n H (lookupE st.vE 7) l) :
    ∃ st', execL tab F31Pc st = some (.normal, st') ∧ n ≤ st'.H.length ∧ n ≤ st'.low ∧ OutAt n st'.H (lookupE st'.vE 7) (l ++ List.replicate (wid sizes t).toNat (rngV t.lo t.hi)) ∧ ∀ s, s ≠ 7 → lookupE st'.vE s = lookupE st.vE s := by
  have hpE : ∀ h : p < H.length, H[p]'h = .cells t.cells := fun h => by rw [List.getElem?_eq_getElem h] at hp; exact Option.some.inj hp
  have hb := wid_bound hok hgc
  obtain ⟨W, hW⟩ : ∃ W : Nat, wid sizes t = W := ⟨(wid sizes t).toNat, by omega⟩
  have c2 := wid_s (H := H) hs ht hok hgc
  have c3 := repeat_s (a := t.lo) (b := t.hi) (W := W) (by omega) (by omega) H
  unfold Ans at c2
  rw [hW] at c2 hb ⊢
  rw [Int.toNat_natCast]
  have hr : V.agg [V.int .i64 t.lo, V.int .i64 t.hi] = rngV t.lo t.hi := rfl
  have hri : isP (rngV t.lo t.hi) = true := rfl
  have hrc : cellsV (rngV t.lo t.hi) = [.int .i64 t.lo, .int .i64 t.hi] := rfl
  have hfr : ∀ (H : Heap) (low : Nat), freezeVs H low (List.replicate W (rngV t.lo t.hi)) = some (List.replicate W (rngV t.lo t.hi), H, low) := fun H low => freezeVs_isPs _ _ _ (isPs_rep _ _ _)
  have hco := cellsOk_rep W t.lo t.hi
  have hne : (List.replicate W (rngV t.lo t.hi)).isEmpty = false := by
    cases W with
    | zero => omega
    | succ W => rfl
  have hne' : ¬ W = 0 := by omega
  have hc1 : ¬ H.length + 1 ≤ H.length := by omega
  have htk : List.take W (List.replicate W (rngV t.lo t.hi)) = List.replicate W (rngV t.lo t.hi) := List.take_of_length_le (by simp)
  have hcap : W * 17 ≤ 1099511627776 := by omega
  rcases hO with ⟨rfl, hv⟩ | ⟨hlne, q, hnq, hv, hq⟩
  · refine ⟨_, by simp [F31Pc, callBody, zipE, execL_seq, execL_region, execL_cond, execL_skip, execL_ret, execL_exit, execL_block, execOps, wantedA, S_mv, S_pick, S_bin, S_un, S_call0, S_call1, S_extract, S_nilEq, S_load, S_alloc, Opd.ev, lookupE, lookE_setE, St.put, binA, unA, boolOf, freezeVs, freezeV, freeze1, isP, isPs, resultsA, resultA, finish, old, olds, flat, movedH_same, Nat.min_self, loadA, readCells, cellsV_int, l0, l9, l23, hv, h1, hp, hpE, S_fieldAddr, Tb.d3, Tb.len, Tb.c2, Tb.e2, S_lit, S_append, step, hr, hri, hrc, fillL, zeroElem, cellsOk, cellOk, slE_isP hs.sl, slE_isP ht.cols.sl, c2, c3, hc1, elems, get_off0, htk, hfr, hco, hne, hne', hcap, movedH, inOrder, touches, -List.take_replicate]; exact ⟨by decide, rfl⟩, ?_⟩
    refine ⟨by simp; omega, by simp; omega, .inr ⟨?_, H.length + 1, by omega, ?_, ?_⟩, fun s hs => by simp [lookE_setE, hs]⟩
    · intro e; rw [List.nil_append] at e; rw [e] at hne; cases hne
    · simp [lookE_setE]
    · simp only [List.nil_append]; rw [get_off]; rfl
  · have hqH : q < H.length := by
      rcases Nat.lt_or_ge q H.length with h | h
      · exact h
      · rw [List.getElem?_eq_none h] at hq; cases hq
    have hqA := fun t => get_app hq t
    have hcap2 : (l.length + W) * 17 ≤ 1099511627776 := by omega
    refine ⟨_, by simp [F31Pc, callBody, zipE, execL_seq, execL_region, execL_cond, execL_skip, execL_ret, execL_exit, execL_block, execOps, wantedA, S_mv, S_pick, S_bin, S_un, S_call0, S_call1, S_extract, S_nilEq, S_load, S_alloc, Opd.ev, lookupE, lookE_setE, St.put, binA, unA, boolOf, freezeVs, freezeV, freeze1, isP, isPs, resultsA, resultA, finish, old, olds, flat, movedH_same, Nat.min_self, loadA, readCells, cellsV_int, l0, l9, l23, hv, h1, hp, hpE, S_fieldAddr, Tb.d3, Tb.len, Tb.c2, Tb.e2, S_lit, S_append, step, hr, hri, hrc, fillL, zeroElem, cellsOk, cellOk, slE_isP hs.sl, slE_isP ht.cols.sl, c2, c3, hc1, elems, get_off0, htk, hfr, hco, hne, hne', hcap2, hqA, movedH, inOrder, touches, -List.take_replicate]; exact ⟨⟨by decide, .inr (by decide)⟩, rfl⟩, ?_⟩
    refine ⟨by simp; omega, by simp; omega, .inr ⟨by simp [hlne], q, hnq, ?_, ?_⟩, fun s hs => by simp [lookE_setE, hs]⟩
    · simp [lookE_setE]
    · simp only []; rw [List.getElem?_set_self (by simp; omega)]

set_option maxHeartbeats 1000000 in
theorem rg_loop {sizes : List Int} {sv tv : V} {ts : List Tb} {n : Nat} {strict : Bool} (hs : VI sv sizes) (ht : VT tv ts) (hV : Valid sizes ts) {st : St} (hH : n ≤ st.H.length) (hlow : n ≤ st.low) (hlow2 : st.low ≤ st.H.length)
    (l0 : lookupE st.vE 0 = sv) (l2 : lookupE st.vE 2 = .bool strict) (l7 : lookupE st.vE 7 = .nil0) (l14 : lookupE st.vE 14 = tv) (l15 : lookupE st.vE 15 = .int .i64 ts.length) (l16 : lookupE st.vE 16 = .int .i64 0) :
    ∃ st', execL tab (.loop (rangeBody 17 15 16 34 1 0 F31L0)) st = some (.exit 0, st') ∧ n ≤ st'.low ∧ n ≤ st'.H.length ∧ OutAt n st'.H (lookupE st'.vE 7) (rngs strict sizes ts) := by
  have key := range_loop (tab := tab) (b := 17) (n := 15) (i := 16) (t := 34) (blk := 1) (ex := 0) (body := F31L0)
    (I := fun k st => n ≤ st.H.length ∧ n ≤ st.low ∧ st.low ≤ st.H.length ∧ lookupE st.vE 0 = sv ∧ lookupE st.vE 2 = .bool strict ∧ lookupE st.vE 14 = tv ∧ lookupE st.vE 16 = .int .i64 k ∧ lookupE st.vE 15 = .int .i64 ts.length ∧ OutAt n st.H (lookupE st.vE 7) (rngs strict sizes (ts.take k)))
    (Q := fun x st' => x = .exit 0 ∧ n ≤ st'.low ∧ n ≤ st'.H.length ∧ OutAt n st'.H (lookupE st'.vE 7) (rngs strict sizes ts))
    (N := ts.length) ht.lt (by decide) (by decide)
    (fun k st h => ⟨h.2.2.2.2.2.2.1, h.2.2.2.2.2.2.2.1, h.2.2.1⟩)
    (by
      rintro k st hk ⟨q1, q2, q3, q4, q5, q6, q7, q8, q9⟩
      obtain ⟨t, het⟩ : ∃ t, ts[k]? = some t := ⟨_, List.getElem?_eq_getElem hk⟩
      have hto := ht.ok t (List.mem_of_getElem? het)
      have hg := ht.get het
      have hgc := hV.good het
      obtain ⟨s1, a1, a2, a3, a4, a5⟩ := rg_a (n := n) (H := st.H) (st := { st with tE := [], vE := setE st.vE 17 (.bool true) }) ht.sl hg hto rfl q2 q1 (by simp [lookE_setE, q6]) (by simp [lookE_setE, q7])
      have alow := execL_low a1 q3
      have hp1 : s1.H[st.H.length]? = some (.cells t.cells) := by rw [a2]; simp
      have hn1 : n ≤ s1.H.length := by rw [a2]; simp; omega
      have hlen1 : s1.H.length = st.H.length + 1 := by rw [a2]; simp
      have alow' : s1.low ≤ st.low := alow
      obtain ⟨s2, b1, b2, b3, b4, b5⟩ := rg_b (n := n) (strict := strict) hto rfl a3 hn1 hp1 (by rw [a5 2 (by decide)]; simp [lookE_setE, q5]) a4
      have blow := execL_low b1 (by omega)
      have hO2 : OutAt n s2.H (lookupE s2.vE 7) (rngs strict sizes (ts.take k)) := by
        rw [b5 7 (by decide), a5 7 (by decide), b2, a2]
        have : lookupE (setE st.vE 17 (.bool true)) 7 = lookupE st.vE 7 := by simp [lookE_setE]
        rw [this]
        exact q9.app _
      have hlenr : (rngs strict sizes (ts.take k)).length ≤ 100000 := by
        have h1 := rngs_len hV strict k
        have h2 := hV.sum_le strict k
        have h3 := hV.sum_all strict
        omega
      cases hb : (strictB t == strict) with
      | true =>
        obtain ⟨s3, c1, c2, c3, c4, c5⟩ := rg_c (n := n) hs hto hV.ok hgc b2 b3 (by omega) hn1 hp1 hlenr (by rw [b5 0 (by decide), a5 0 (by decide)]; simp [lookE_setE, q4]) (by rw [b5 9 (by decide)]; exact a4) (by rw [b4, hb]) (by rw [← b2]; exact hO2)
        have clow := execL_low c1 (by rw [b2]; omega)
        have cfr := execL_len c1 (by rw [b2]; omega)
        refine ⟨.normal, s3, ?_, ?_⟩
        · rw [F31L0_parts, execL_seq, a1]
          simp only []
          rw [execL_seq, b1]
          exact c1
        · simp only [true_or, if_true]
          refine ⟨?_, by rw [b2] at cfr; omega, c2, c3, by show s3.low ≤ s3.H.length; rw [b2] at cfr; omega, ?_, ?_, ?_, ?_, ?_, ?_⟩
          · rw [c5 16 (by decide), b5 16 (by decide), a5 16 (by decide)]; simp [lookE_setE, q7]
          · simp only [lookE_setE]; rw [c5 0 (by decide), b5 0 (by decide), a5 0 (by decide)]; simp [lookE_setE, q4]
          · simp only [lookE_setE]; rw [c5 2 (by decide), b5 2 (by decide), a5 2 (by decide)]; simp [lookE_setE, q5]
          · simp only [lookE_setE]; rw [c5 14 (by decide), b5 14 (by decide), a5 14 (by decide)]; simp [lookE_setE, q6]
          · simp [lookE_setE]
          · simp only [lookE_setE]; rw [c5 15 (by decide), b5 15 (by decide), a5 15 (by decide)]; simp [lookE_setE, q8]
          · rw [rngs_succ het, hb, if_pos rfl]
            have : lookupE (setE s3.vE 16 (.int .i64 ((k + 1 : Nat) : Int))) 7 = lookupE s3.vE 7 := by simp [lookE_setE]
            show OutAt n s3.H (lookupE (setE s3.vE 16 (.int .i64 ((k + 1 : Nat) : Int))) 7) _
            rw [this]; exact c4
      | false =>
        have hc : execL tab F31Pc s2 = some (.normal, s2) := by
          rw [F31Pc, execL_cond]
          simp [Opd.ev, b4, hb, execL_skip]
        refine ⟨.normal, s2, ?_, ?_⟩
        · rw [F31L0_parts, execL_seq, a1]
          simp only []
          rw [execL_seq, b1]
          exact hc
        · simp only [true_or, if_true]
          refine ⟨?_, by rw [b2]; omega, by rw [b2]; exact hn1, b3, by show s2.low ≤ s2.H.length; rw [b2]; omega, ?_, ?_, ?_, ?_, ?_, ?_⟩
          · rw [b5 16 (by decide), a5 16 (by decide)]; simp [lookE_setE, q7]
          · simp only [lookE_setE]; rw [b5 0 (by decide), a5 0 (by decide)]; simp [lookE_setE, q4]
          · simp only [lookE_setE]; rw [b5 2 (by decide), a5 2 (by decide)]; simp [lookE_setE, q5]
          · simp only [lookE_setE]; rw [b5 14 (by decide), a5 14 (by decide)]; simp [lookE_setE, q6]
          · simp [lookE_setE]
          · simp only [lookE_setE]; rw [b5 15 (by decide), a5 15 (by decide)]; simp [lookE_setE, q8]
          · rw [rngs_succ het, hb]
            have : lookupE (setE s2.vE 16 (.int .i64 ((k + 1 : Nat) : Int))) 7 = lookupE s2.vE 7 := by simp [lookE_setE]
            show OutAt n s2.H (lookupE (setE s2.vE 16 (.int .i64 ((k + 1 : Nat) : Int))) 7) _
            rw [this]; simpa using hO2)
    (by
      rintro st ⟨q1, q2, q3, q4, q5, q6, q7, q8, q9⟩
      rw [List.take_length] at q9
      refine ⟨rfl, q2, q1, ?_⟩
      have : lookupE (setE st.vE 17 (.bool false)) 7 = lookupE st.vE 7 := by simp [lookE_setE]
      show OutAt n st.H (lookupE (setE st.vE 17 (.bool false)) 7) _
      rw [this]; exact q9)
  obtain ⟨x, st', h1, rfl, h2⟩ := key ts.length 0 st (by omega) ⟨hH, hlow, hlow2, l0, l2, l14, l16, l15, .inl ⟨by simp [rngs], l7⟩⟩
  exact ⟨st', h1, h2⟩

/-- What cells.Ranges returns. -/
def rngsV (l : List V) : V := if l = [] then .nil0 else .list 2 l
def rangesR (strict : Bool) (sizes : List Int) (ts : List Tb) : List V := if validB sizes ts then rngs strict sizes ts else []

set_option maxHeartbeats 2000000 in
theorem ranges_s {sizes : List Int} {sv tv : V} {ts : List Tb} {strict : Bool} (hs : VI sv sizes) (ht : VT tv ts) (H : Heap) : Ans (.fn 31 [] []) [sv, tv, .bool strict] H (rngsV (rangesR strict sizes ts)) := by
  have hv := valid_s hs ht H
  unfold Ans at *
  rw [callL_fn, show tab 31 = some (.code F31) from rfl]
  unfold rangesR
  cases hV : validB sizes ts with
  | false =>
    rw [hV] at hv
    simp [F31, callBody, zipE, execL_seq, execL_region, execL_cond, execL_skip, execL_ret, execL_exit, execL_block, execOps, wantedA, S_mv, S_pick, S_bin, S_un, S_call0, S_call1, S_extract, S_nilEq, S_load, S_alloc, Opd.ev, lookupE, setE, St.put, binA, unA, boolOf, freezeVs, freezeV, freeze1, isP, isPs, resultsA, resultA, finish, old, olds, flat, movedH_same, Nat.min_self, loadA, readCells, cellsV_int, slE_isP hs.sl, slE_isP ht.sl, hv, rngsV]
  | true =>
    rw [hV] at hv
    have hVd := valid_iff.1 hV
    obtain ⟨st', r1, r2, r3, r4⟩ := rg_loop (n := H.length) (strict := strict) hs ht hVd
      (st := { tE := [], vE := [(0, sv), (1, tv), (2, .bool strict), (6, .nil0), (13, .bool false), (7, .nil0), (14, tv), (15, .int .i64 ts.length), (16, .int .i64 0)], H := H, low := H.length }) (Nat.le_refl _) (Nat.le_refl _) (Nat.le_refl _) rfl rfl rfl rfl rfl rfl
    have hip := rngs_isPs strict sizes ts
    have hmin2 : H.length ≤ min st'.low st'.H.length := by omega
    generalize rngs strict sizes ts = l at *
    rcases r4 with ⟨e1, e2⟩ | ⟨e1, q, e2, e3, e4⟩
    · simp [F31, callBody, zipE, execL_seq, execL_region, execL_cond, execL_skip, execL_ret, execL_exit, execL_block, execOps, wantedA, S_mv, S_pick, S_bin, S_un, S_call0, S_call1, S_extract, S_nilEq, S_load, S_alloc, Opd.ev, lookupE, setE, St.put, binA, unA, boolOf, freezeVs, freezeV, freeze1, isP, isPs, resultsA, resultA, finish, old, olds, flat, movedH_same, Nat.min_self, loadA, readCells, cellsV_int, slE_isP hs.sl, slE_isP ht.sl, hv, S_len 6, ht.sl, ht.len, r1, r2, e1, e2, rngsV, lookE_setE, hmin2]
    · have e4E : ∀ h : q < st'.H.length, st'.H[q]'h = .row 2 l false := fun h => by rw [List.getElem?_eq_getElem h] at e4; exact Option.some.inj e4
      have htk : List.take l.length l = l := List.take_of_length_le (Nat.le_refl _)
      have hmin3 : H.length ≤ min (min st'.low st'.H.length) q := by omega
      simp [F31, callBody, zipE, execL_seq, execL_region, execL_cond, execL_skip, execL_ret, execL_exit, execL_block, execOps, wantedA, S_mv, S_pick, S_bin, S_un, S_call0, S_call1, S_extract, S_nilEq, S_load, S_alloc, Opd.ev, lookupE, setE, St.put, binA, unA, boolOf, freezeVs, freezeV, freeze1, isP, isPs, resultsA, resultA, finish, old, olds, flat, movedH_same, Nat.min_self, loadA, readCells, cellsV_int, slE_isP hs.sl, slE_isP ht.sl, hv, S_len 6, ht.sl, ht.len, r1, r2, e1, e2, e3, e4, e4E, hip, rngsV, lookE_setE, hmin2, hmin3]
      intro h; omega

def countR (strict : Bool) (sizes : List Int) (ts : List Tb) : Int := if validB sizes ts then sumB strict sizes ts else 0

theorem count_s {sizes : List Int} {sv tv : V} {ts : List Tb} {strict : Bool} (hs : VI sv sizes) (ht : VT tv ts) (H : Heap) : Ans (.fn 16 [] []) [sv, tv, .bool strict] H (.int .i64 (countR strict sizes ts)) := by
  have hr := ranges_s (strict := strict) hs ht H
  have hsl : slE 2 (rngsV (rangesR strict sizes ts)) = true := by unfold rngsV; split <;> rfl
  have hel : ((el (rngsV (rangesR strict sizes ts))).length : Int) = countR strict sizes ts := by
    have h1 : (el (rngsV (rangesR strict sizes ts))).length = (rangesR strict sizes ts).length := by
      unfold rngsV; split
      · rename_i e; rw [e]; rfl
      · rfl
    rw [h1]
    unfold rangesR countR
    cases hV : validB sizes ts with
    | false => rfl
    | true =>
      have := rngs_len (valid_iff.1 hV) strict ts.length
      rw [List.take_length] at this
      exact this
  unfold Ans at *
  rw [callL_fn, show tab 16 = some (.code F16) from rfl]
  simp [F16, callBody, zipE, execL_seq, execL_region, execL_cond, execL_skip, execL_ret, execL_exit, execL_block, execOps, wantedA, S_mv, S_pick, S_bin, S_un, S_call0, S_call1, S_extract, S_nilEq, S_load, S_alloc, Opd.ev, lookupE, setE, St.put, binA, unA, boolOf, freezeVs, freezeV, freeze1, isP, isPs, resultsA, resultA, finish, old, olds, flat, movedH_same, Nat.min_self, loadA, readCells, cellsV_int, slE_isP hs.sl, slE_isP ht.sl, hr, S_len 2, hsl, hel]
end Go.Abs.T09
/- The odometer of cells.Tuples, above any heap. -/
namespace Go.Abs.T09
open Go Go.Abs

set_option maxHeartbeats 1000000 in
theorem inc_loop_g {sv cv : V} {sizes cols : List Int} (hs : VI sv sizes) (hc : VI cv cols) (hin : ∀ c ∈ cols, 0 ≤ c ∧ c < sizes.length) {n : Nat} (hn : cols.length = n) {o0 o3 : AObj} {B H : Heap} :
    ∀ (i : Nat) (t : List Int) (st : St), t.length = n → i ≤ n → (∀ x ∈ t, -1000 ≤ x ∧ x ≤ 1000) → st.H = H ++ o0 :: .cells [sv] :: .cells [cv] :: o3 :: rowI t :: B → st.low ≤ st.H.length ∧ H.length ≤ st.low →
      lookupE st.vE 4 = .sref (H.length + 4) 1 0 n n → lookupE st.vE 5 = .int .i64 ((i : Int) - 1) → lookupE st.vE 2 = .ptr (H.length + 1) 0 → lookupE st.vE 1 = .ptr (H.length + 2) 0 →
      ∃ st', execL tab (.loop F62L0) st = some (.exit 2, st') ∧ st'.H = H ++ o0 :: .cells [sv] :: .cells [cv] :: o3 :: rowI (incAt (dimsOf sizes cols) i t) :: B ∧ (st'.low ≤ st'.H.length ∧ H.length ≤ st'.low) ∧ st'.ro = st.ro ∧ ∀ s, s ≠ 5 → s ≠ 23 → s ≠ 43 → lookupE st'.vE s = lookupE st.vE s
  | 0, t, st, ht, hi, hx, h4, hl, l4, l5, l2, l1 => by
    rw [execL_loop]
    simp only [F62L0]
    refine ⟨_, by simp [callBody, zipE, execL_seq, execL_region, execL_cond, execL_skip, execL_ret, execL_exit, execL_block, execOps, wantedA, S_mv, S_pick, S_bin, S_un, S_call0, S_call1, S_extract, S_nilEq, S_load, S_alloc, Opd.ev, lookupE, lookE_setE, St.put, binA, unA, boolOf, freezeVs, freezeV, freeze1, isP, isPs, resultsA, resultA, finish, old, olds, flat, movedH_same, Nat.min_self, loadA, readCells, cellsV_int, l5]; rfl, ?_⟩
    simp only [incAt, lookE_setE]
    exact ⟨h4, by have := congrArg List.length h4; simp at this; omega, trivial, fun s a b c => by simp [b]⟩
  | i + 1, t, st, ht, hi, hx, h4, hl, l4, l5, l2, l1 => by
    have hit : i < t.length := by omega
    obtain ⟨x, hxi⟩ : ∃ x, t[i]? = some x := ⟨_, List.getElem?_eq_getElem hit⟩
    have hxb := hx x (List.mem_of_getElem? hxi)
    obtain ⟨c, hcc⟩ : ∃ c, cols[i]? = some c := ⟨_, List.getElem?_eq_getElem (by omega)⟩
    obtain ⟨c0, c1⟩ := hin c (List.mem_of_getElem? hcc)
    obtain ⟨d, hd⟩ : ∃ d, sizes[c.toNat]? = some d := ⟨_, List.getElem?_eq_getElem (by omega)⟩
    have hdim : (dimsOf sizes cols)[i]? = some d := by simp [dimsOf, hcc, hd]
    have hgc := hc.get hcc
    have hgd := hs.get hd
    have e5 : ((i + 1 : Nat) : Int) - 1 = (i : Int) := by omega
    rw [e5] at l5
    have hw : IntKind.i64.wrap (x + 1) = x + 1 := by rw [wrap_small] <;> omega
    have hcl := hc.lt
    have hw2 : IntKind.i64.wrap ((i : Int) - 1) = (i : Int) - 1 := by rw [wrap_small] <;> omega
    have hge : (0 : Int) ≤ (i : Int) := by omega
    have hin' : i < n := by omega
    have hgi : (t.map (V.int .i64))[i]? = some (.int .i64 x) := by simp [hxi]
    have hlen : (t.map (V.int .i64)).length = n := by simp [ht]
    have hset : ((t.map (V.int .i64)).set i (.int .i64 (x + 1)))[i]? = some (.int .i64 (x + 1)) := by simp [hit]
    rw [execL_loop]
    simp only [rowI] at h4
    generalize hds : t.map (V.int .i64) = ds at *
    have hgE : ∀ h : i < ds.length, ds[i]'h = .int .i64 x := fun h => by rw [List.getElem?_eq_getElem h] at hgi; exact Option.some.inj hgi
    by_cases hxd : x + 1 < d
    · refine ⟨_, by simp [F62L0, callBody, zipE, execL_seq, execL_region, execL_cond, execL_skip, execL_ret, execL_exit, execL_block, execOps, wantedA, S_mv, S_pick, S_bin, S_un, S_call0, S_call1, S_extract, S_nilEq, S_load, S_alloc, Opd.ev, lookupE, lookE_setE, St.put, binA, unA, boolOf, freezeVs, freezeV, freeze1, isP, isPs, resultsA, resultA, finish, old, olds, flat, movedH_same, Nat.min_self, loadA, readCells, cellsV_int, l5, l4, l2, l1, h4, S_index, S_indexR, isRow, hc.sl, hs.sl, hlen, hgi, hgE, hset, hw, S_store, storeA, putElem, plainCells, plainCell, hge, hgc, hgd, natOf_nonneg _ c0, hin', inOrder, hxd, movedH, get_off, get_off0, set_off, set_off0]; rfl, ?_⟩
      simp only [incAt, hxi, hdim, Option.getD_some, hxd, if_true, lookE_setE]
      refine ⟨by simp [rowI, List.map_set, hds], ⟨by first | (simp; omega) | omega, by first | omega | (simp; omega)⟩, trivial, fun s a b c => by simp [b, c]⟩
    · have hstep : ∃ st1, execL tab F62L0 st = some (.normal, st1) ∧ st1.H = H ++ o0 :: .cells [sv] :: .cells [cv] :: o3 :: rowI (t.set i 0) :: B ∧ (st1.low ≤ st1.H.length ∧ H.length ≤ st1.low) ∧ st1.ro = st.ro ∧ lookupE st1.vE 5 = .int .i64 ((i : Int) - 1) ∧
          ∀ s, s ≠ 5 → s ≠ 23 → s ≠ 43 → lookupE st1.vE s = lookupE st.vE s := by
        refine ⟨_, by simp [F62L0, callBody, zipE, execL_seq, execL_region, execL_cond, execL_skip, execL_ret, execL_exit, execL_block, execOps, wantedA, S_mv, S_pick, S_bin, S_un, S_call0, S_call1, S_extract, S_nilEq, S_load, S_alloc, Opd.ev, lookupE, lookE_setE, St.put, binA, unA, boolOf, freezeVs, freezeV, freeze1, isP, isPs, resultsA, resultA, finish, old, olds, flat, movedH_same, Nat.min_self, loadA, readCells, cellsV_int, l5, l4, l2, l1, h4, S_index, S_indexR, isRow, hc.sl, hs.sl, hlen, hgi, hgE, hset, hw, hw2, S_store, storeA, putElem, plainCells, plainCell, hge, hgc, hgd, natOf_nonneg _ c0, hin', inOrder, hxd, movedH, get_off, get_off0, set_off, set_off0]; rfl, ?_⟩
        simp only [lookE_setE]
        refine ⟨by simp [rowI, List.map_set, hds], ⟨by first | (simp; omega) | omega, by first | omega | (simp; omega)⟩, trivial, by simp, fun s a b c => by simp [a, b, c]⟩
      obtain ⟨st1, q1, q2, q3, q4, q5, q6⟩ := hstep
      rw [q1]
      obtain ⟨st', r1, r2, r3, r4, r5⟩ := inc_loop_g hs hc hin hn i (t.set i 0) st1 (by simp [ht]) (by omega) (fun y hy => by
          rcases List.mem_or_eq_of_mem_set hy with h | rfl
          · exact hx y h
          · omega) q2 q3 (by rw [q6 4 (by decide) (by decide) (by decide)]; exact l4) q5 (by rw [q6 2 (by decide) (by decide) (by decide)]; exact l2) (by rw [q6 1 (by decide) (by decide) (by decide)]; exact l1)
      refine ⟨st', r1, ?_, r3, r4.trans q4, fun s a b c => (r5 s a b c).trans (q6 s a b c)⟩
      rw [r2]
      simp only [incAt, hxi, hdim, Option.getD_some, if_neg hxd]
end Go.Abs.T09
/- A round of cells.Tuples, above any heap. -/
namespace Go.Abs.T09
open Go Go.Abs

def outCg (n : Nat) (L : List V) : AObj := .cells [if L = [] then .nil0 else .sref (n + 5) 1 0 L.length L.length]
def heapT (n : Nat) (sv cv : V) (env : Env) (t : List Int) (L : List V) : Heap := outCg n L :: .cells [sv] :: .cells [cv] :: loopO env :: rowI t :: outRow L

set_option maxHeartbeats 1000000 in
theorem yield_step_g {sv cv : V} {env : Env} {t : List Int} {L : List V} {tv : V} (H : Heap) (he : lookupE env 5 = .ptr H.length 0) (hL : L.length ≤ 1000) (htp : isP tv = true) (htc : cellsV tv = [tv]) (hto : cellOk tv = true) :
    callL tab (.yield (H.length + 3)) [tv] (H ++ heapT H.length sv cv env t L) = some (.bool true, H ++ heapT H.length sv cv env t (L ++ [tv]), H.length) := by
  rw [callL_yield]
  by_cases hE : L = []
  · subst hE
    simp [heapT, outCg, outRow, loopO, yieldBody, F17A0, F17B0, callBody, zipE, execL_seq, execL_region, execL_cond, execL_skip, execL_ret, execL_exit, execL_block, execOps, wantedA, S_mv, S_pick, S_bin, S_un, S_call0, S_call1, S_extract, S_nilEq, S_load, S_alloc, Opd.ev, lookupE, lookE_setE, St.put, binA, unA, boolOf, freezeVs, freezeV, freeze1, isP, isPs, resultsA, resultA, finish, old, olds, flat, movedH_same, Nat.min_self, loadA, readCells, cellsV_int, he, S_lit, S_append, S_store, step, storeA, fillL, elems, zeroElem, htp, htc, hto, cellsOk, cellOk_sref, cellsV_sref, setCells, movedH, rowI, get_off, get_off0, set_off, set_off0]
  · have hcap : (L.length + 1) * 25 ≤ 1099511627776 := by omega
    simp [heapT, outCg, outRow, loopO, yieldBody, F17A0, F17B0, callBody, zipE, execL_seq, execL_region, execL_cond, execL_skip, execL_ret, execL_exit, execL_block, execOps, wantedA, S_mv, S_pick, S_bin, S_un, S_call0, S_call1, S_extract, S_nilEq, S_load, S_alloc, Opd.ev, lookupE, lookE_setE, St.put, binA, unA, boolOf, freezeVs, freezeV, freeze1, isP, isPs, resultsA, resultA, finish, old, olds, flat, movedH_same, Nat.min_self, loadA, readCells, cellsV_int, he, S_lit, S_append, S_store, step, storeA, fillL, elems, zeroElem, htp, htc, hto, hE, hcap, cellsOk, cellOk_sref, cellsV_sref, setCells, movedH, rowI, get_off, get_off0, set_off, set_off0]

set_option maxHeartbeats 1000000 in
theorem tuples1_g {sv cv : V} {sizes cols : List Int} {env : Env} (H : Heap) (hs : VI sv sizes) (hc : VI cv cols) (hin : ∀ c ∈ cols, 0 ≤ c ∧ c < sizes.length) (hd : ∀ d ∈ dimsOf sizes cols, 1 ≤ d ∧ d ≤ 6) (hne : cols ≠ []) (h3 : cols.length ≤ 3)
    (he : lookupE env 5 = .ptr H.length 0) {W : Nat} (hW : prodI (dimsOf sizes cols) = W) (hW1 : W ≤ 1000) (hW0 : 1 ≤ W)
    (hb : ∀ k, k ≤ cols.length → 0 ≤ prodI ((dimsOf sizes cols).take k) ∧ prodI ((dimsOf sizes cols).take k) < 4611686018427387904) :
    callL tab (.fn 62 [] [.ptr (H.length + 2) 0, .ptr (H.length + 1) 0]) [.yield (H.length + 3)] (H ++ [outCg H.length [], .cells [sv], .cells [cv], loopO env]) = some (.tup [], H ++ heapT H.length sv cv env (tk (dimsOf sizes cols) W) (Lk (dimsOf sizes cols) W), H.length) := by
  generalize hds : dimsOf sizes cols = ds at *
  have hdl : ds.length = cols.length := by rw [← hds]; simp [dimsOf]
  have hpos : 0 < cols.length := List.length_pos_iff.2 hne
  have key := range_loop (tab := tab) (b := 13) (n := 11) (i := 12) (t := 47) (blk := 1) (ex := 0) (body := F62L1)
    (I := fun k st => st.H = H ++ heapT H.length sv cv env (tk ds k) (Lk ds k) ∧ st.low ≤ st.H.length ∧ lookupE st.vE 0 = .yield (H.length + 3) ∧ lookupE st.vE 1 = .ptr (H.length + 2) 0 ∧ lookupE st.vE 2 = .ptr (H.length + 1) 0 ∧ lookupE st.vE 4 = .sref (H.length + 4) 1 0 cols.length cols.length ∧
      lookupE st.vE 12 = .int .i64 k ∧ lookupE st.vE 11 = .int .i64 W ∧ (H.length ≤ st.low ∧ (0 < k → st.low ≤ H.length)))
    (Q := fun x st => x = .exit 0 ∧ st.H = H ++ heapT H.length sv cv env (tk ds W) (Lk ds W) ∧ st.low = H.length)
    (N := W) (by omega) (by decide) (by decide)
    (fun k st h => ⟨h.2.2.2.2.2.2.1, h.2.2.2.2.2.2.2.1, h.2.1⟩)
    (by
      rintro k st hk ⟨q1, q2, q3, q4, q5, q6, q7, q8, q9, -⟩
      have hlen : (tk ds k).length = cols.length := (tk_inR (fun d h => (hd d h).1) k).1.trans hdl
      have h4 : (H ++ heapT H.length sv cv env (tk ds k) (Lk ds k))[H.length + 4]? = some (.row 1 ((tk ds k).map (.int .i64)) false) := by rw [get_off]; rfl
      have hcl := clone_row_s (ds := tk ds k) h4 (by intro e; rw [e] at hlen; simp at hlen; omega) (by omega)
      unfold Ans at hcl
      rw [hlen] at hcl
      have hy := yield_step_g (H := H) (sv := sv) (cv := cv) (env := env) (t := tk ds k) (L := Lk ds k) (tv := tv (tk ds k)) he (by simp [Lk]; omega) rfl rfl rfl
      have hL : Lk ds k ++ [tv (tk ds k)] = Lk ds (k + 1) := by simp [Lk, List.range_succ]
      rw [hL] at hy
      simp only [tv] at hy
      have h4' : (H ++ heapT H.length sv cv env (tk ds k) (Lk ds (k + 1)))[H.length + 4]? = some (.row 1 ((tk ds k).map (.int .i64)) false) := by rw [get_off]; rfl
      have hll : ∀ L, heapT H.length sv cv env (tk ds k) L ≠ [] := fun L => by simp [heapT]
      have hw : IntKind.i64.wrap ((cols.length : Int) - 1) = (cols.length : Int) - 1 := by rw [wrap_small] <;> omega
      -- up to the inner loop
      obtain ⟨st1, a1, a2, a3, a4, a5⟩ := inc_loop_g (H := H) hs hc hin rfl (o0 := outCg H.length (Lk ds (k + 1))) (o3 := loopO env) (B := outRow (Lk ds (k + 1))) cols.length (tk ds k)
        { tE := [], vE := setE (setE (setE st.vE 13 (.bool true)) 18 (.bool false)) 5 (.int .i64 ((cols.length : Int) - 1)), H := H ++ heapT H.length sv cv env (tk ds k) (Lk ds (k + 1)), low := H.length, ro := st.ro } hlen (Nat.le_refl _) (tk_bound hd k) rfl ⟨by simp, Nat.le_refl _⟩
        (by simp [lookE_setE, q6]) (by simp [lookE_setE]) (by simp [lookE_setE, q5]) (by simp [lookE_setE, q4])
      have alow := execL_low a1 (by simp)
      have hcond : ∀ L, ¬ (H.length + (heapT H.length sv cv env (tk ds k) L).length ≤ H.length) := fun L => by simp [heapT]
      have hmn : ∀ a, min H.length (H.length + a) = H.length := fun a => Nat.min_eq_left (by omega)
      have hmn2 : ∀ a, min (H.length + a) H.length = H.length := fun a => Nat.min_eq_right (by omega)
      have hmn3 : min st.low H.length = H.length := by omega
      refine ⟨.normal, st1, by simp [F62L1, callBody, zipE, execL_seq, execL_region, execL_cond, execL_skip, execL_ret, execL_exit, execL_block, execOps, wantedA, S_mv, S_pick, S_bin, S_un, S_call0, S_call1, S_extract, S_nilEq, S_load, S_alloc, Opd.ev, lookupE, lookE_setE, St.put, binA, unA, boolOf, freezeVs, freezeV, freeze1, isP, isPs, resultsA, resultA, finish, old, olds, flat, movedH_same, Nat.min_self, loadA, readCells, cellsV_int, q1, q3, q6, hcl, hy, hcond, S_lenR, isRow, h4', hlen, hw, a1, hmn, hmn2, hmn3], ?_⟩
      simp only [true_or, if_true]
      have hnext : st1.H = H ++ heapT H.length sv cv env (tk ds (k + 1)) (Lk ds (k + 1)) := by
        rw [a2, hds]
        simp only [tk, hdl]
        rfl
      refine ⟨by rw [a5 12 (by decide) (by decide) (by decide)]; simp [lookE_setE, q7], a3.1, hnext, by exact a3.1, ?_, ?_, ?_, ?_, ?_, ?_, a3.2, fun _ => alow⟩
      · simp only [lookE_setE]; rw [a5 0 (by decide) (by decide) (by decide)]; simp [lookE_setE, q3]
      · simp only [lookE_setE]; rw [a5 1 (by decide) (by decide) (by decide)]; simp [lookE_setE, q4]
      · simp only [lookE_setE]; rw [a5 2 (by decide) (by decide) (by decide)]; simp [lookE_setE, q5]
      · simp only [lookE_setE]; rw [a5 4 (by decide) (by decide) (by decide)]; simp [lookE_setE, q6]
      · simp [lookE_setE]
      · simp only [lookE_setE]; rw [a5 11 (by decide) (by decide) (by decide)]; simp [lookE_setE, q8])
    (by
      rintro st ⟨q1, q2, q3, q4, q5, q6, q7, q8, q9⟩
      exact ⟨rfl, q1, by have := q9.1; have := q9.2 (by omega); show st.low = H.length; omega⟩)
  have hwid := width_s (H := H ++ heapT H.length sv cv env (tk ds 0) []) hs hc hin (by rw [hds]; exact hb)
  unfold Ans at hwid
  rw [hds, hW] at hwid
  have hwid5 : callL tab (.fn 34 [] []) [sv, cv] (H ++ heapT H.length sv cv env (tk ds 0) []) = some (.int .i64 W, H ++ heapT H.length sv cv env (tk ds 0) [], H.length + 5) := by rw [hwid]; simp [heapT, outRow]
  have hheap : H ++ [outCg H.length [], .cells [sv], .cells [cv], loopO env, AObj.row 1 (List.replicate cols.length (V.int .i64 0)) false] = H ++ heapT H.length sv cv env (tk ds 0) [] := by
    simp [heapT, outRow, rowI, tk, hdl]
  obtain ⟨x, st', h1, rfl, h2, hlow⟩ := key W 0 { tE := [], vE := [(0, .yield (H.length + 3)), (1, .ptr (H.length + 2) 0), (2, .ptr (H.length + 1) 0), (4, .sref (H.length + 4) 1 0 cols.length cols.length), (11, .int .i64 W), (12, .int .i64 0)], H := H ++ heapT H.length sv cv env (tk ds 0) [], low := H.length + 4 } (by omega)
    ⟨rfl, by simp [heapT], rfl, rfl, rfl, rfl, rfl, rfl, by simp, fun h => absurd h (by omega)⟩
  rw [callL_fn, show tab 62 = some (.code F62) from rfl]
  have hcap : (cols.length : Int) * 9 ≤ 1099511627776 := by omega
  have hnz : (cols.length : Int) ≠ 0 := by omega
  have hnz' : cols.length ≠ 0 := by omega
  have hnn : (0 : Int) ≤ (cols.length : Int) := by omega
  have g1 : (H ++ heapT H.length sv cv env (tk ds 0) [])[H.length + 1]? = some (.cells [sv]) := by rw [get_off]; rfl
  have g2 : (H ++ heapT H.length sv cv env (tk ds 0) [])[H.length + 2]? = some (.cells [cv]) := by rw [get_off]; rfl
  have t1 : (heapT H.length sv cv env (tk ds 0) [])[1]? = some (.cells [sv]) := rfl
  have t2 : (heapT H.length sv cv env (tk ds 0) [])[2]? = some (.cells [cv]) := rfl
  have t1E : ∀ h : 1 < (heapT H.length sv cv env (tk ds 0) []).length, (heapT H.length sv cv env (tk ds 0) [])[1]'h = .cells [sv] := fun _ => rfl
  have t2E : ∀ h : 2 < (heapT H.length sv cv env (tk ds 0) []).length, (heapT H.length sv cv env (tk ds 0) [])[2]'h = .cells [cv] := fun _ => rfl
  have gl : (H ++ heapT H.length sv cv env (tk ds 0) []).length = H.length + 5 := by simp [heapT, outRow]
  simp [F62, callBody, zipE, execL_seq, execL_region, execL_cond, execL_skip, execL_ret, execL_exit, execL_block, execOps, wantedA, S_mv, S_pick, S_bin, S_un, S_call0, S_call1, S_extract, S_nilEq, S_load, S_alloc, Opd.ev, lookupE, setE, St.put, binA, unA, boolOf, freezeVs, freezeV, freeze1, isP, isPs, resultsA, resultA, finish, old, olds, flat, movedH_same, Nat.min_self, loadA, readCells, cellsV_int, S_len 1, hc.sl, hs.sl, hc.len, S_mkSlice, step, hcap, hnz, hnz', hne, hnn, zeroElem, hheap, slE_isP hs.sl, slE_isP hc.sl, t1, t2, t1E, t2E, gl, hwid5, h1, h2, hlow, get_off, get_off0]
end Go.Abs.T09
/- cells.Tuples, above any heap. -/
namespace Go.Abs.T09
open Go Go.Abs

def heapEg (n : Nat) (sv cv : V) (env : Env) : Heap := [.cells [.sref (n + 4) 1 0 1 1], .cells [sv], .cells [cv], loopO env, .row 1 [.emp] false]

set_option maxHeartbeats 1000000 in
theorem yield_emp_g {sv cv : V} {env : Env} {H : Heap} (he : lookupE env 5 = .ptr H.length 0) : callL tab (.yield (H.length + 3)) [.emp] (H ++ [outCg H.length [], .cells [sv], .cells [cv], loopO env]) = some (.bool true, H ++ heapEg H.length sv cv env, H.length) := by
  rw [callL_yield]
  simp [heapEg, outCg, loopO, yieldBody, F17A0, F17B0, callBody, zipE, execL_seq, execL_region, execL_cond, execL_skip, execL_ret, execL_exit, execL_block, execOps, wantedA, S_mv, S_pick, S_bin, S_un, S_call0, S_call1, S_extract, S_nilEq, S_load, S_alloc, Opd.ev, lookupE, lookE_setE, St.put, binA, unA, boolOf, freezeVs, freezeV, freeze1, isP, isPs, resultsA, resultA, finish, old, olds, flat, movedH_same, Nat.min_self, loadA, readCells, cellsV_int, he, S_lit, S_append, S_store, step, storeA, fillL, elems, zeroElem, cellsV, cellOk, cellsOk, setCells, movedH, get_off, get_off0, set_off, set_off0]

set_option maxHeartbeats 1000000 in
theorem tuples1_emp_g {sv cv : V} {sizes : List Int} {env : Env} {H : Heap} (hs : VI sv sizes) (hc : VI cv []) (he : lookupE env 5 = .ptr H.length 0) :
    callL tab (.fn 62 [] [.ptr (H.length + 2) 0, .ptr (H.length + 1) 0]) [.yield (H.length + 3)] (H ++ [outCg H.length [], .cells [sv], .cells [cv], loopO env]) = some (.tup [], H ++ heapEg H.length sv cv env, H.length) := by
  have hcl := clone_emp_s (H := H ++ [outCg H.length [], .cells [sv], .cells [cv], loopO env])
  unfold Ans at hcl
  have hy := yield_emp_g (H := H) (sv := sv) (cv := cv) he
  have key := range_loop (tab := tab) (b := 13) (n := 11) (i := 12) (t := 47) (blk := 1) (ex := 0) (body := F62L1)
    (I := fun k st => st.H = (if k = 0 then H ++ [outCg H.length [], .cells [sv], .cells [cv], loopO env] else H ++ heapEg H.length sv cv env) ∧ st.low ≤ st.H.length ∧ lookupE st.vE 0 = .yield (H.length + 3) ∧ lookupE st.vE 4 = .emp ∧
      lookupE st.vE 12 = .int .i64 k ∧ lookupE st.vE 11 = .int .i64 1 ∧ (H.length ≤ st.low ∧ (0 < k → st.low ≤ H.length)))
    (Q := fun x st => x = .exit 0 ∧ st.H = H ++ heapEg H.length sv cv env ∧ st.low = H.length)
    (N := 1) (by decide) (by decide) (by decide)
    (fun k st h => ⟨h.2.2.2.2.1, h.2.2.2.2.2.1, h.2.1⟩)
    (by
      rintro k st hk ⟨q1, q2, q3, q4, q5, q6, q7, -⟩
      have hk0 : k = 0 := by omega
      subst hk0
      simp only [if_true] at q1
      have hw : IntKind.i64.wrap (-1) = -1 := rfl
      have hin : ∀ st0 : St, lookupE st0.vE 5 = .int .i64 (-1) → st0.low = H.length → H.length ≤ st0.H.length → ∃ st', execL tab (.loop F62L0) st0 = some (.exit 2, st') ∧ st'.H = st0.H ∧ st'.low = H.length ∧ ∀ s, s ≠ 23 → lookupE st'.vE s = lookupE st0.vE s := fun st0 h5 hl hle => by
        rw [execL_loop]
        simp only [F62L0]
        refine ⟨_, by simp [callBody, zipE, execL_seq, execL_region, execL_cond, execL_skip, execL_ret, execL_exit, execL_block, execOps, wantedA, S_mv, S_pick, S_bin, S_un, S_call0, S_call1, S_extract, S_nilEq, S_load, S_alloc, Opd.ev, lookupE, lookE_setE, St.put, binA, unA, boolOf, freezeVs, freezeV, freeze1, isP, isPs, resultsA, resultA, finish, old, olds, flat, movedH_same, Nat.min_self, loadA, readCells, cellsV_int, h5]; rfl, ?_⟩
        simp only [lookE_setE]
        exact ⟨trivial, by omega, fun s a => by simp [a]⟩
      obtain ⟨st', r1, r2, r3, r4⟩ := hin { tE := [], vE := setE (setE (setE st.vE 13 (.bool true)) 18 (.bool false)) 5 (.int .i64 (-1)), H := H ++ heapEg H.length sv cv env, low := H.length, ro := st.ro } (by simp [lookE_setE]) rfl (by simp)
      have hlen : (H ++ heapEg H.length sv cv env).length = H.length + 5 := by simp [heapEg]
      have hlen4 : (H ++ [outCg H.length [], .cells [sv], .cells [cv], loopO env]).length = H.length + 4 := by simp
      rw [hlen4] at hcl
      have hmn3 : min st.low H.length = H.length := by omega
      have hcond : ¬ H.length + 4 ≤ H.length := by omega
      have hmn : ∀ a, min H.length (H.length + a) = H.length := fun a => Nat.min_eq_left (by omega)
      have hmn2 : ∀ a, min (H.length + a) H.length = H.length := fun a => Nat.min_eq_right (by omega)
      refine ⟨.normal, st', by simp [F62L1, callBody, zipE, execL_seq, execL_region, execL_cond, execL_skip, execL_ret, execL_exit, execL_block, execOps, wantedA, S_mv, S_pick, S_bin, S_un, S_call0, S_call1, S_extract, S_nilEq, S_load, S_alloc, Opd.ev, lookupE, lookE_setE, St.put, binA, unA, boolOf, freezeVs, freezeV, freeze1, isP, isPs, resultsA, resultA, finish, old, olds, flat, movedH_same, Nat.min_self, loadA, readCells, cellsV_int, q1, q3, q4, hcl, hy, S_len 1, slE, el, hw, r1, hlen, hcond, hmn, hmn2, hmn3], ?_⟩
      simp only [true_or, if_true]
      refine ⟨by rw [r4 12 (by decide)]; simp [lookE_setE, q5], by rw [r3, r2, hlen]; omega, by rw [r2]; rfl, by show st'.low ≤ st'.H.length; rw [r3, r2, hlen]; omega, ?_, ?_, ?_, ?_, by rw [r3]; exact Nat.le_refl _, fun _ => by rw [r3]; exact Nat.le_refl _⟩
      · simp only [lookE_setE]; rw [r4 0 (by decide)]; simp [lookE_setE, q3]
      · simp only [lookE_setE]; rw [r4 4 (by decide)]; simp [lookE_setE, q4]
      · simp [lookE_setE]
      · simp only [lookE_setE]; rw [r4 11 (by decide)]; simp [lookE_setE, q6])
    (by
      rintro st ⟨q1, q2, q3, q4, q5, q6, q7⟩
      exact ⟨rfl, q1, by have := q7.1; have := q7.2 (by omega); show st.low = H.length; omega⟩)
  have hwid := width_s (H := H ++ [outCg H.length [], .cells [sv], .cells [cv], loopO env]) hs hc (fun c h => by cases h) (by intro k hk; simp at hk; subst hk; simp [prodI])
  unfold Ans at hwid
  have hp : prodI (dimsOf sizes []) = 1 := rfl
  have hlen4 : (H ++ [outCg H.length [], .cells [sv], .cells [cv], loopO env]).length = H.length + 4 := by simp
  rw [hp, hlen4] at hwid
  obtain ⟨x, st', h1, rfl, h2, hlow⟩ := key 1 0 { tE := [], vE := [(0, .yield (H.length + 3)), (1, .ptr (H.length + 2) 0), (2, .ptr (H.length + 1) 0), (4, .emp), (11, .int .i64 1), (12, .int .i64 0)], H := H ++ [outCg H.length [], .cells [sv], .cells [cv], loopO env], low := H.length + 4 } (by omega)
    ⟨rfl, by simp, rfl, rfl, rfl, rfl, by simp, fun h => absurd h (by omega)⟩
  rw [callL_fn, show tab 62 = some (.code F62) from rfl]
  have hl0 : (el cv).length = 0 := hc.len
  simp [F62, callBody, zipE, execL_seq, execL_region, execL_cond, execL_skip, execL_ret, execL_exit, execL_block, execOps, wantedA, S_mv, S_pick, S_bin, S_un, S_call0, S_call1, S_extract, S_nilEq, S_load, S_alloc, Opd.ev, lookupE, setE, St.put, binA, unA, boolOf, freezeVs, freezeV, freeze1, isP, isPs, resultsA, resultA, finish, old, olds, flat, movedH_same, Nat.min_self, loadA, readCells, cellsV_int, S_len 1, hc.sl, hs.sl, hl0, S_mkSlice, step, slE_isP hs.sl, slE_isP hc.sl, hwid, h1, h2, hlow, get_off, get_off0]

theorem tuples44_g {sv cv : V} (H : Heap) (h1 : slE 1 sv = true) (h2 : slE 1 cv = true) : callL tab (.fn 44 [] []) [sv, cv] (H ++ [.cells [.nil0]]) = some (.fn 62 [] [.ptr (H.length + 2) 0, .ptr (H.length + 1) 0], H ++ [.cells [.nil0], .cells [sv], .cells [cv]], H.length + 1) := by
  rw [callL_fn, show tab 44 = some (.code F44) from rfl]
  simp [F44, callBody, zipE, execL_seq, execL_region, execL_cond, execL_skip, execL_ret, execL_exit, execL_block, execOps, wantedA, S_mv, S_pick, S_bin, S_un, S_call0, S_call1, S_extract, S_nilEq, S_load, S_alloc, Opd.ev, lookupE, setE, St.put, binA, unA, boolOf, freezeVs, freezeV, freeze1, isP, isPs, resultsA, resultA, finish, old, olds, flat, movedH_same, Nat.min_self, loadA, readCells, cellsV_int, S_box_sl (es := 1), h1, h2, S_mkFn, movedH]

theorem tuples_bad_g (H : Heap) {sv cv : V} {sizes cols : List Int} (hs : VI sv sizes) (hc : VI cv cols)
    (hbad : (decide (cols.length ≤ 3) && !cols.any (badCol sizes)) = false ∨ (sizes.all fun n => decide (1 ≤ n) && decide (n ≤ 6)) = false) : Ans (.fn 17 [] []) [sv, cv] H .nil0 := by
  have hcol := columned_s (H := H) hs hc
  have hsz := sized_s (H := H) hs
  unfold Ans at hcol hsz ⊢
  rw [callL_fn, show tab 17 = some (.code F17) from rfl]
  generalize hb1 : (decide (cols.length ≤ 3) && !cols.any (badCol sizes)) = b1 at *
  generalize hb2 : (sizes.all fun n => decide (1 ≤ n) && decide (n ≤ 6)) = b2 at *
  cases b1 with
  | false => simp [F17, callBody, zipE, execL_seq, execL_region, execL_cond, execL_skip, execL_ret, execL_exit, execL_block, execOps, wantedA, S_mv, S_pick, S_bin, S_un, S_call0, S_call1, S_extract, S_nilEq, S_load, S_alloc, Opd.ev, lookupE, setE, St.put, binA, unA, boolOf, freezeVs, freezeV, freeze1, isP, isPs, resultsA, resultA, finish, old, olds, flat, movedH_same, Nat.min_self, loadA, readCells, cellsV_int, slE_isP hs.sl, slE_isP hc.sl, hcol]
  | true =>
    have : b2 = false := by simpa using hbad
    subst this
    simp [F17, callBody, zipE, execL_seq, execL_region, execL_cond, execL_skip, execL_ret, execL_exit, execL_block, execOps, wantedA, S_mv, S_pick, S_bin, S_un, S_call0, S_call1, S_extract, S_nilEq, S_load, S_alloc, Opd.ev, lookupE, setE, St.put, binA, unA, boolOf, freezeVs, freezeV, freeze1, isP, isPs, resultsA, resultA, finish, old, olds, flat, movedH_same, Nat.min_self, loadA, readCells, cellsV_int, slE_isP hs.sl, slE_isP hc.sl, hcol, hsz]

set_option maxHeartbeats 1000000 in
theorem tuples_good_g (H : Heap) {sv cv : V} {sizes cols : List Int} (hs : VI sv sizes) (hc : VI cv cols) (hcol : (decide (cols.length ≤ 3) && !cols.any (badCol sizes)) = true) (hsz : (sizes.all fun n => decide (1 ≤ n) && decide (n ≤ 6)) = true)
    (hne : cols ≠ []) {W : Nat} (hW : prodI (dimsOf sizes cols) = W) (hW1 : W ≤ 1000) (hW0 : 1 ≤ W)
    (hb : ∀ k, k ≤ cols.length → 0 ≤ prodI ((dimsOf sizes cols).take k) ∧ prodI ((dimsOf sizes cols).take k) < 4611686018427387904)
    (hin : ∀ c ∈ cols, 0 ≤ c ∧ c < sizes.length) (hd : ∀ d ∈ dimsOf sizes cols, 1 ≤ d ∧ d ≤ 6) (h3 : cols.length ≤ 3) :
    Ans (.fn 17 [] []) [sv, cv] H (.list 1 (Lk (dimsOf sizes cols) W)) := by
  have hcol' := columned_s (H := H) hs hc
  have hsz' := sized_s (H := H) hs
  have h44 := tuples44_g H hs.sl hc.sl
  have h62 := tuples1_g (H := H) (env := [(0, sv), (1, cv), (4, .nil0), (15, .bool false), (5, .ptr H.length 0), (18, .fn 62 [] [.ptr (H.length + 2) 0, .ptr (H.length + 1) 0])]) hs hc hin hd hne h3 rfl hW hW1 hW0 hb
  unfold Ans at hcol' hsz' ⊢
  rw [hcol] at hcol'; rw [hsz] at hsz'
  rw [callL_fn, show tab 17 = some (.code F17) from rfl]
  have hWne : Lk (dimsOf sizes cols) W ≠ [] := by intro e; have := congrArg List.length e; simp [Lk] at this; omega
  have hWl : (Lk (dimsOf sizes cols) W).length = W := by simp [Lk]
  have htk : List.take W (Lk (dimsOf sizes cols) W) = Lk (dimsOf sizes cols) W := List.take_of_length_le (by rw [hWl]; exact Nat.le_refl _)
  simp only [outCg, loopO, if_true] at h62
  simp [F17, callBody, zipE, execL_seq, execL_region, execL_cond, execL_skip, execL_ret, execL_exit, execL_block, execOps, wantedA, S_mv, S_pick, S_bin, S_un, S_call0, S_call1, S_extract, S_nilEq, S_load, S_alloc, Opd.ev, lookupE, setE, St.put, binA, unA, boolOf, freezeVs, freezeV, freeze1, isP, isPs, resultsA, resultA, finish, old, olds, flat, movedH_same, Nat.min_self, loadA, readCells, cellsV_int, slE_isP hs.sl, slE_isP hc.sl, hcol', hsz', h44, execL_range, roOk, isFn, h62, heapT, outCg, loopO, get_off, get_off0, set_off, set_off0, outRow, rowI, hWne, hWl, htk, Lk_isPs]

set_option maxHeartbeats 1000000 in
theorem tuples_emp_g (H : Heap) {sv cv : V} {sizes : List Int} (hs : VI sv sizes) (hc : VI cv []) (hsz : (sizes.all fun n => decide (1 ≤ n) && decide (n ≤ 6)) = true) :
    Ans (.fn 17 [] []) [sv, cv] H (.list 1 [.emp]) := by
  have hcol' := columned_s (H := H) hs hc
  have hsz' := sized_s (H := H) hs
  have h44 := tuples44_g H hs.sl hc.sl
  have h62 := tuples1_emp_g (H := H) (env := [(0, sv), (1, cv), (4, .nil0), (15, .bool false), (5, .ptr H.length 0), (18, .fn 62 [] [.ptr (H.length + 2) 0, .ptr (H.length + 1) 0])]) hs hc rfl
  unfold Ans at hcol' hsz' ⊢
  rw [hsz] at hsz'
  have hcol : (decide (([] : List Int).length ≤ 3) && !([] : List Int).any (badCol sizes)) = true := rfl
  rw [hcol] at hcol'
  rw [callL_fn, show tab 17 = some (.code F17) from rfl]
  simp only [outCg, loopO, if_true] at h62
  simp [F17, callBody, zipE, execL_seq, execL_region, execL_cond, execL_skip, execL_ret, execL_exit, execL_block, execOps, wantedA, S_mv, S_pick, S_bin, S_un, S_call0, S_call1, S_extract, S_nilEq, S_load, S_alloc, Opd.ev, lookupE, setE, St.put, binA, unA, boolOf, freezeVs, freezeV, freeze1, isP, isPs, resultsA, resultA, finish, old, olds, flat, movedH_same, Nat.min_self, loadA, readCells, cellsV_int, slE_isP hs.sl, slE_isP hc.sl, hcol', hsz', h44, execL_range, roOk, isFn, h62, heapEg, loopO, get_off, get_off0, set_off, set_off0]
end Go.Abs.T09
/- In a valid layout each number below the count is a cell of one table. -/
namespace Go.Abs.T09
open Go Go.Abs

theorem hit_iff {sizes : List Int} {b : Bool} {c : Int} {t : Tb} : hit sizes b c t = true ↔ strictB t = b ∧ t.first ≤ c ∧ c < t.first + wid sizes t := by
  simp only [hit, Bool.and_eq_true, decide_eq_true_eq, beq_iff_eq]
  constructor
  · rintro ⟨⟨a, h1⟩, h2⟩; exact ⟨a, by omega, by omega⟩
  · rintro ⟨a, h1, h2⟩; exact ⟨⟨a, by omega⟩, by omega⟩

theorem Valid.some_hit {sizes : List Int} {ts : List Tb} (h : Valid sizes ts) {b : Bool} {c : Int} (h0 : 0 ≤ c) : ∀ k, c < sumB b sizes (ts.take k) → ∃ i t, i < k ∧ ts[i]? = some t ∧ hit sizes b c t = true
  | 0, hc => by simp [sumB] at hc; omega
  | k + 1, hc => by
    cases e : ts[k]? with
    | none =>
      have hle := List.getElem?_eq_none_iff.1 e
      have e1 : ts.take (k + 1) = ts.take k := by rw [List.take_of_length_le hle, List.take_of_length_le (by omega)]
      rw [e1] at hc
      obtain ⟨i, t, hi, het, hh⟩ := h.some_hit h0 k hc
      exact ⟨i, t, by omega, het, hh⟩
    | some t =>
      by_cases hk : c < sumB b sizes (ts.take k)
      · obtain ⟨i, t, hi, het, hh⟩ := h.some_hit h0 k hk
        exact ⟨i, t, by omega, het, hh⟩
      · rw [sumB_succ e] at hc
        by_cases hb : strictB t = b
        · subst hb
          simp only [beq_self_eq_true, if_true] at hc
          exact ⟨k, t, by omega, e, hit_iff.2 ⟨rfl, by rw [h.first e]; omega, by rw [h.first e]; omega⟩⟩
        · have : (strictB t == b) = false := by simp [hb]
          rw [this] at hc
          simp at hc
          omega

theorem Valid.cell_of {sizes : List Int} {ts : List Tb} (h : Valid sizes ts) {i : Nat} {t : Tb} (e : ts[i]? = some t) {tu : List Int} (hR : InR (dimsOf sizes t.cl) tu) : cellR sizes ts i tu = (t.first + valP (dimsOf sizes t.cl) tu tu.length, 0) := by
  have hi : i < ts.length := by
    rcases Nat.lt_or_ge i ts.length with h1 | h1
    · exact h1
    · rw [List.getElem?_eq_none h1] at e; cases e
  unfold cellR
  rw [if_neg (by rw [valid_iff.2 h]; decide), if_neg (by omega)]
  simp only [Int.toNat_natCast, e]
  rw [if_pos hR]

/-- What cells.Tuple and cells.Cell say of a number below the count. -/
theorem Valid.there_back {sizes : List Int} {ts : List Tb} (h : Valid sizes ts) {b : Bool} {c : Int} (h0 : 0 ≤ c) (hc : c < sumB b sizes ts) :
    ∃ (i : Nat) (tu : List Int), tupleR sizes ts b c = .tup [.int .i64 i, tupV tu, .bool true] ∧ tu.length ≤ 3 ∧ cellR sizes ts i tu = (c, 0) := by
  obtain ⟨j, t, -, hjt, hjh⟩ := h.some_hit h0 ts.length (by rw [List.take_length]; exact hc)
  have hsome : ts.findIdx? (hit sizes b c) ≠ none := fun hn => by
    rw [List.findIdx?_eq_none_iff] at hn
    rw [hn t (List.mem_of_getElem? hjt)] at hjh; cases hjh
  obtain ⟨i, hi⟩ := Option.ne_none_iff_exists'.1 hsome
  obtain ⟨hil, hh, -⟩ := List.findIdx?_eq_some_iff_getElem.1 hi
  obtain ⟨t, het⟩ : ∃ t, ts[i]? = some t := ⟨_, List.getElem?_eq_getElem hil⟩
  have : ts[i] = t := by rw [List.getElem?_eq_getElem hil] at het; exact Option.some.inj het
  rw [this] at hh
  obtain ⟨h1, h2, h3⟩ := hit_iff.1 hh
  have hd := dims_in h.ok (h.good het)
  obtain ⟨k1, k2, k3⟩ := tupleOf_spec (fun d hd' => (hd d hd').1) (k := c - t.first) (by omega) (by unfold wid at h3; omega)
  refine ⟨i, tupleOf (dimsOf sizes t.cl) (c - t.first), ?_, ?_, ?_⟩
  · unfold tupleR
    rw [valid_iff.2 h, if_neg (by simp; omega), hi]
    simp only [het]
  · rw [k3]; simp [dimsOf]; exact (goodCols_in (h.good het)).1
  · rw [h.cell_of het k1, k2]
    congr 1; omega
theorem Valid.none_at_end {sizes : List Int} {ts : List Tb} (h : Valid sizes ts) {b : Bool} : tupleR sizes ts b (sumB b sizes ts) = .tup [.int .i64 0, .nil0, .bool false] := by
  have h0 := (h.sum_all b).1
  have hn : ts.findIdx? (hit sizes b (sumB b sizes ts)) = none := by
    rw [List.findIdx?_eq_none_iff]
    intro t ht
    obtain ⟨k, hk⟩ := List.getElem?_of_mem ht
    rw [Bool.eq_false_iff]
    intro hh
    obtain ⟨h1, h2, h3⟩ := hit_iff.1 hh
    have := (h.end_le hk).2
    rw [h1] at this
    omega
  unfold tupleR
  rw [valid_iff.2 h, if_neg (by simp; omega), hn]

/-- What cells.Tuples returns for the columns of a table of a valid layout. -/
theorem Valid.tuples {sizes : List Int} {ts : List Tb} {sv : V} (h : Valid sizes ts) (hs : VI sv sizes) {i : Nat} {t : Tb} (e : ts[i]? = some t) (ht : TbOk t) (H : Heap) :
    ∃ (W : Nat) (LL : List V), wid sizes t = W ∧ Ans (.fn 17 [] []) [sv, t.cv] H (.list 1 LL) ∧ LL.length = W ∧ ∀ k, k < W → ∃ v, LL[k]? = some v ∧ VI v (tk (dimsOf sizes t.cl) k) ∧ cellsV v = [v] := by
  have hg := h.good e
  have hdl : (dimsOf sizes t.cl).length = t.cl.length := by simp [dimsOf]
  have hin := (goodCols_in hg).2
  have h3 := (goodCols_in hg).1
  have hd := dims_in h.ok hg
  have hb := cols_bound h.ok hg
  have hw := h.widb e
  obtain ⟨W, hW⟩ : ∃ W : Nat, wid sizes t = W := ⟨(wid sizes t).toNat, by omega⟩
  have hsz : (sizes.all fun n => decide (1 ≤ n) && decide (n ≤ 6)) = true := h.ok
  refine ⟨W, ?_⟩
  by_cases hne : t.cl = []
  · have hW1 : W = 1 := by
      have : prodI (dimsOf sizes t.cl) = 1 := by rw [hne]; rfl
      unfold wid at hW; omega
    subst hW1
    refine ⟨[.emp], hW, tuples_emp_g H hs (by have := ht.cols; rw [hne] at this; exact this) hsz, rfl, fun k hk => ?_⟩
    have : k = 0 := by omega
    subst this
    exact ⟨.emp, rfl, by rw [hne]; exact ⟨rfl, rfl, by simp [tk, dimsOf]⟩, rfl⟩
  · refine ⟨Lk (dimsOf sizes t.cl) W, hW, tuples_good_g H hs ht.cols hg hsz hne hW (by omega) (by omega) (fun k hk => by have := hb k hk; omega) hin hd h3, by simp [Lk], fun k hk => ?_⟩
    refine ⟨tv (tk (dimsOf sizes t.cl) k), by simp [Lk, hk], ?_⟩
    exact tv_VI (by rw [(tk_inR (fun d h => (hd d h).1) k).1, hdl]; omega)

/-- The j-th tuple of a table is its j-th cell. -/
theorem Valid.tuple_cell {sizes : List Int} {ts : List Tb} (h : Valid sizes ts) {i : Nat} {t : Tb} (e : ts[i]? = some t) {j : Nat} (hj : (j : Int) < wid sizes t) : cellR sizes ts i (tk (dimsOf sizes t.cl) j) = (t.first + j, 0) := by
  have hd := dims_in h.ok (h.good e)
  have hR := tk_inR (fun d hd' => (hd d hd').1) j
  rw [h.cell_of e hR, hR.1, tk_val (fun d hd' => (hd d hd').1) j hj]
end Go.Abs.T09
/- The reference's Tuples: the list of tuples, as it grows. -/
namespace Go.Abs.T09
open Go Go.Abs

/-! ### plain lists -/
def grow (l : List (List Int)) (d : Int) : List (List Int) := l.flatMap fun t => (List.range d.toNat).map fun x : Nat => t ++ [(x : Int)]
def tupsF (ds : List Int) : List (List Int) := ds.foldl grow [[]]

theorem flatMap_get {α β : Type} (f : α → List β) {m : Nat} (hm : 0 < m) (hf : ∀ a, (f a).length = m) : ∀ (l : List α) (j : Nat), (l.flatMap f)[j]? = (l[j / m]?).bind fun a => (f a)[j % m]?
  | [], j => by simp
  | a :: l, j => by
    rw [List.flatMap_cons]
    rcases Nat.lt_or_ge j m with h | h
    · rw [List.getElem?_append_left (by rw [hf]; exact h), Nat.div_eq_of_lt h, Nat.mod_eq_of_lt h]
      rfl
    · rw [List.getElem?_append_right (by rw [hf]; exact h), hf, flatMap_get f hm hf l (j - m)]
      obtain ⟨i, rfl⟩ : ∃ i, j = i + m := ⟨j - m, by omega⟩
      rw [Nat.add_sub_cancel, Nat.add_div_right _ hm, Nat.add_mod_right]
      rfl
theorem grow_get (l : List (List Int)) {d : Int} (hd : 1 ≤ d) (j : Nat) : (grow l d)[j]? = (l[j / d.toNat]?).map fun t => t ++ [((j % d.toNat : Nat) : Int)] := by
  unfold grow
  rw [flatMap_get _ (m := d.toNat) (by omega) (fun a => by simp)]
  have : j % d.toNat < d.toNat := Nat.mod_lt _ (by omega)
  cases l[j / d.toNat]? with
  | none => rfl
  | some t => simp [this]
theorem grow_length (l : List (List Int)) (d : Int) : (grow l d).length = l.length * d.toNat := by
  unfold grow
  induction l with
  | nil => simp
  | cons a l ih => rw [List.flatMap_cons, List.length_append, ih]; simp [Nat.add_mul]; omega
theorem tupsF_snoc (ds : List Int) (d : Int) : tupsF (ds ++ [d]) = grow (tupsF ds) d := by simp [tupsF]
theorem grow_take (l : List (List Int)) (d : Int) {k : Nat} {t : List Int} (h : l[k]? = some t) : grow (l.take (k + 1)) d = grow (l.take k) d ++ (List.range d.toNat).map fun x : Nat => t ++ [(x : Int)] := by
  unfold grow
  rw [List.take_add_one, h]
  simp
theorem range_take_map {β : Type} (f : Nat → β) {n x : Nat} (h : x < n) : ((List.range n).map f).take (x + 1) = ((List.range n).map f).take x ++ [f x] := by
  rw [List.take_add_one]
  simp [h]
theorem tupsF_length {ds : List Int} (hd : ∀ d ∈ ds, 1 ≤ d) : ((tupsF ds).length : Int) = prodI ds := by
  have : ∀ k, k ≤ ds.length → ((tupsF (ds.take k)).length : Int) = prodI (ds.take k) := by
    intro k
    induction k with
    | zero => intro _; simp [tupsF, prodI]
    | succ k ih =>
      intro hk
      obtain ⟨d, hdk⟩ : ∃ d, ds[k]? = some d := ⟨_, List.getElem?_eq_getElem (by omega)⟩
      have hd1 := hd d (List.mem_of_getElem? hdk)
      have e : ds.take (k + 1) = ds.take k ++ [d] := by rw [List.take_add_one, hdk]; rfl
      rw [prodI_take hdk, e, tupsF_snoc, grow_length, Int.natCast_mul, ih (by omega), Int.toNat_of_nonneg (by omega)]
  have := this ds.length (Nat.le_refl _)
  rwa [List.take_length] at this

/-! ### what the executor has -/
/-- The tuples so far, made before the object h5. -/
def Out (n h5 : Nat) (H : Heap) (v : V) (l : List (List Int)) : Prop := v = .list 1 (l.map tupV) ∨ ∃ q, n ≤ q ∧ q < h5 ∧ v = .sref q 1 0 l.length l.length ∧ H[q]? = some (.row 1 (l.map tupV) false)
/-- The longer tuples, made since. -/
def Acc (h5 : Nat) (H : Heap) (v : V) (L : List (List Int)) : Prop := (v = .emp ∧ L = []) ∨ (L ≠ [] ∧ ∃ q, h5 ≤ q ∧ q < H.length ∧ v = .sref q 1 0 L.length L.length ∧ H[q]? = some (.row 1 (L.map tupV) false))

theorem cellsV_tupV (t : List Int) : cellsV (tupV t) = [tupV t] := by unfold tupV; split <;> rfl
theorem isP_tupV (t : List Int) : isP (tupV t) = true := by unfold tupV; split <;> simp [isP, isPs_ints]
theorem cellOk_tupV (t : List Int) : cellOk (tupV t) = true := by unfold tupV; split <;> rfl
theorem tupV_snoc (t : List Int) (x : Int) : tupV (t ++ [x]) = .list 1 (t.map (.int .i64) ++ [.int .i64 x]) := by unfold tupV; rw [if_neg (by simp)]; simp

theorem Out.elem {n h5 : Nat} {H : Heap} {v : V} {l : List (List Int)} (h : Out n h5 H v l) {k : Nat} {t : List Int} (hk : l[k]? = some t) :
    ∃ P, (∀ (call : CallT) (ev : Opd → V) (low : Nat) (x i : Opd), ev x = v → ev i = .int .i64 k → stepC call ev H low (.indexAddr 1 x i) = some (P, H, low)) ∧ loadA H none P = some (tupV t) := by
  have hkl : k < l.length := by
    rcases Nat.lt_or_ge k l.length with h1 | h1
    · exact h1
    · rw [List.getElem?_eq_none h1] at hk; cases hk
  rcases h with rfl | ⟨q, hnq, hq, rfl, hr⟩
  · refine ⟨.pin [tupV t] 0, fun call ev low x i hx hi => ?_, by simp [loadA, readCells]⟩
    rw [S_index (by rw [hx]; rfl), hi, hx]
    simp [el, hk, cellsV_tupV]
  · refine ⟨.eptr q 1 k 0 l.length, fun call ev low x i hx hi => ?_, ?_⟩
    · exact S_index_row hx hr (by simp) (by rw [hi]; simp) hkl (Nat.le_refl _)
    · simp [loadA, hr, hk, cellsV_tupV, readCells]
theorem Out.len {n h5 : Nat} {H : Heap} {v : V} {l : List (List Int)} (h : Out n h5 H v l) (call : CallT) (ev : Opd → V) (low : Nat) (x : Opd) (hx : ev x = v) : stepC call ev H low (.len 1 x) = some (.int .i64 l.length, H, low) := by
  rcases h with rfl | ⟨q, hnq, hq, rfl, hr⟩
  · rw [S_len 1 (by rw [hx]; rfl), hx]; simp [el]
  · exact S_len_row hx hr (by simp)

theorem Out.app {n h5 : Nat} {H : Heap} {v : V} {l : List (List Int)} (h : Out n h5 H v l) (T : Heap) : Out n h5 (H ++ T) v l := by
  rcases h with h | ⟨q, hnq, hq, hv, hr⟩
  · exact .inl h
  · exact .inr ⟨q, hnq, hq, hv, get_app hr T⟩
theorem Out.set {n h5 : Nat} {H : Heap} {v : V} {l : List (List Int)} (h : Out n h5 H v l) {j : Nat} (hj : h5 ≤ j) (o : AObj) : Out n h5 (H.set j o) v l := by
  rcases h with h | ⟨q, hnq, hq, hv, hr⟩
  · exact .inl h
  · exact .inr ⟨q, hnq, hq, hv, by rw [List.getElem?_set_ne (by omega)]; exact hr⟩

theorem cellsV_lst (es : Nat) (ds : List V) : cellsV (.list es ds) = [.list es ds] := rfl
theorem loadA_pin (H : Heap) (vs : List V) (f : Nat) : loadA H none (.pin vs f) = vs[f]? := rfl

/-- The variables while a tuple is made longer. -/
structure G (sv cv v5 v7 : V) (m k x : Nat) (e : Env) : Prop where
  v0 : lookupE e 0 = sv
  v1 : lookupE e 1 = cv
  v5 : lookupE e 5 = v5
  v6 : lookupE e 6 = .int .i64 m
  v7 : lookupE e 7 = v7
  v8 : lookupE e 8 = .int .i64 k
  v9 : lookupE e 9 = .int .i64 x

set_option maxHeartbeats 2000000 in
theorem g_step {n h5 k m x : Nat} {sv cv v5 v7 : V} {sizes cols : List Int} {l L : List (List Int)} {t : List Int} {c d : Int} {H : Heap} {st : St}
    (hs : VI sv sizes) (hc : VI cv cols) (h1 : st.H = H) (h2 : st.low = n) (hn : n ≤ h5) (hh : h5 ≤ H.length) (ho : Out n h5 H v5 l) (ha : Acc h5 H v7 L) (hk : l[k]? = some t)
    (hc0 : 0 ≤ c) (hm : cols[m]? = some c) (hd : sizes[c.toNat]? = some d) (hx : (x : Int) < d) (hd6 : d ≤ 6) (hL : L.length ≤ 1000) (ht : t.length ≤ 1000) (g : G sv cv v5 v7 m k x st.vE) :
    ∃ st' v7', execL tab F26L0 st = some (.normal, st') ∧ H.length ≤ st'.H.length ∧ st'.low = n ∧ Out n h5 st'.H v5 l ∧ Acc h5 st'.H v7' (L ++ [t ++ [(x : Int)]]) ∧ G sv cv v5 v7' m k (x + 1) st'.vE := by
  obtain ⟨P, hidx, hld⟩ := ho.elem hk
  have hgc := hc.get hm
  have hgd := hs.get hd
  have n0 : min n H.length = n := Nat.min_eq_left (by omega)
  have hw : IntKind.i64.wrap ((x : Int) + 1) = ((x + 1 : Nat) : Int) := by rw [wrap_small] <;> omega
  have hip : isPs (t.map (V.int .i64) ++ [.int .i64 (x : Int)]) = true := by
    have := isPs_ints (t ++ [(x : Int)])
    simpa using this
  rcases ha with ⟨rfl, rfl⟩ | ⟨hLn, q, hq1, hq2, rfl, hr⟩
  · by_cases ht0 : t = []
    · subst ht0
      have e0 : tupV [] = .emp := rfl
      rw [e0] at hld
      have : ∃ st', execL tab F26L0 st = some (.normal, st') ∧ st'.H = H ++ [.row 1 [.int .i64 (x : Int)] true, .row 1 [tupV [(x : Int)]] false] ∧ st'.low = n ∧ G sv cv v5 (.sref (H.length + 1) 1 0 1 1) m k (x + 1) st'.vE := by
        refine ⟨_, by simp [F26L0, callBody, zipE, execL_seq, execL_region, execL_cond, execL_skip, execL_ret, execL_exit, execL_block, execOps, wantedA, S_mv, S_pick, S_bin, S_un, S_call0, S_call1, S_extract, S_nilEq, S_load, S_alloc, Opd.ev, lookupE, lookE_setE, St.put, binA, unA, boolOf, freezeVs, freezeV, freeze1, isP, isPs, resultsA, resultA, finish, old, olds, flat, movedH_same, Nat.min_self, loadA_pin, cellsV_int, cellsV_lst, h1, h2, n0, g.v0, g.v1, g.v5, g.v6, g.v7, g.v8, g.v9, S_index, hs.sl, hc.sl, hgc, hgd, natOf_nonneg _ hc0, hx, hidx, hld, S_lit, S_append, step, fillL, zeroElem, elems, cellsOk, cellOk, set_off0, get_off0, hw]; rfl, ?_⟩
        exact ⟨by simp [tupV], by simp; omega, ⟨by simp [lookE_setE, g.v0], by simp [lookE_setE, g.v1], by simp [lookE_setE, g.v5], by simp [lookE_setE, g.v6], by simp [lookE_setE], by simp [lookE_setE, g.v8], by simp [lookE_setE]⟩⟩
      obtain ⟨st', q1, q2, q3, q4⟩ := this
      exact ⟨st', _, q1, by rw [q2]; simp, q3, by rw [q2]; exact ho.app _, .inr ⟨by simp, H.length + 1, by omega, by rw [q2]; simp, rfl, by rw [q2, get_off]; rfl⟩, q4⟩
    · have e0 : tupV t = .list 1 (t.map (.int .i64)) := by rw [tupV, if_neg ht0]
      rw [e0] at hld
      have hne : t.isEmpty = false := by simp [ht0]
      have htk : List.take (t.length + 1) (t.map (V.int .i64) ++ [V.int .i64 (x : Int)]) = t.map (V.int .i64) ++ [V.int .i64 (x : Int)] := List.take_of_length_le (by simp)
      have hcap : t.length * 9 ≤ 1099511627776 := by omega
      have hcap2 : (t.length + 1) * 9 ≤ 1099511627776 := by omega
      have : ∃ st', execL tab F26L0 st = some (.normal, st') ∧ st'.H = H ++ [.row 1 (t.map (.int .i64) ++ [.int .i64 (x : Int)]) true, .row 1 [tupV (t ++ [(x : Int)])] false] ∧ st'.low = n ∧ G sv cv v5 (.sref (H.length + 1) 1 0 1 1) m k (x + 1) st'.vE := by
        refine ⟨_, by simp [F26L0, callBody, zipE, execL_seq, execL_region, execL_cond, execL_skip, execL_ret, execL_exit, execL_block, execOps, wantedA, S_mv, S_pick, S_bin, S_un, S_call0, S_call1, S_extract, S_nilEq, S_load, S_alloc, Opd.ev, lookupE, lookE_setE, St.put, binA, unA, boolOf, freezeVs, freezeV, freeze1, isP, isPs, resultsA, resultA, finish, old, olds, flat, movedH_same, Nat.min_self, loadA_pin, cellsV_int, cellsV_lst, h1, h2, n0, g.v0, g.v1, g.v5, g.v6, g.v7, g.v8, g.v9, S_index, hs.sl, hc.sl, hgc, hgd, natOf_nonneg _ hc0, hx, hidx, hld, S_lit, S_append, step, fillL, zeroElem, elems, cellsOk, cellOk, cellsOk_ints, cellsOk_ints2, freeze_ints, hne, ht0, hcap, hcap2, hip, htk, set_off0, get_off0, hw]; rfl, ?_⟩
        exact ⟨by simp [tupV_snoc], by simp; omega, ⟨by simp [lookE_setE, g.v0], by simp [lookE_setE, g.v1], by simp [lookE_setE, g.v5], by simp [lookE_setE, g.v6], by simp [lookE_setE], by simp [lookE_setE, g.v8], by simp [lookE_setE]⟩⟩
      obtain ⟨st', q1, q2, q3, q4⟩ := this
      exact ⟨st', _, q1, by rw [q2]; simp, q3, by rw [q2]; exact ho.app _, .inr ⟨by simp, H.length + 1, by omega, by rw [q2]; simp, rfl, by rw [q2, get_off]; rfl⟩, q4⟩
  · have hrE : ∀ h : q < H.length, H[q]'h = .row 1 (L.map tupV) false := fun h => by rw [List.getElem?_eq_getElem h] at hr; exact Option.some.inj hr
    have hcapL : (L.length + 1) * 25 ≤ 1099511627776 := by omega
    by_cases ht0 : t = []
    · subst ht0
      have e0 : tupV [] = .emp := rfl
      rw [e0] at hld
      have : ∃ st', execL tab F26L0 st = some (.normal, st') ∧ st'.H = H.set q (.row 1 (L.map tupV ++ [tupV [(x : Int)]]) false) ++ [.row 1 [.int .i64 (x : Int)] true] ∧ st'.low = n ∧ G sv cv v5 (.sref q 1 0 (L.length + 1) (L.length + 1)) m k (x + 1) st'.vE := by
        refine ⟨_, by simp [F26L0, callBody, zipE, execL_seq, execL_region, execL_cond, execL_skip, execL_ret, execL_exit, execL_block, execOps, wantedA, S_mv, S_pick, S_bin, S_un, S_call0, S_call1, S_extract, S_nilEq, S_load, S_alloc, Opd.ev, lookupE, lookE_setE, St.put, binA, unA, boolOf, freezeVs, freezeV, freeze1, isP, isPs, resultsA, resultA, finish, old, olds, flat, movedH_same, Nat.min_self, loadA_pin, cellsV_int, cellsV_lst, h1, h2, n0, g.v0, g.v1, g.v5, g.v6, g.v7, g.v8, g.v9, S_index, hs.sl, hc.sl, hgc, hgd, natOf_nonneg _ hc0, hx, hidx, hld, S_lit, S_append, step, fillL, zeroElem, elems, cellsOk, cellOk, set_off0, get_off0, hw, get_app hr, hcapL]; rfl, ?_⟩
        exact ⟨by simp [tupV, List.set_append_left, hq2], by simp; omega, ⟨by simp [lookE_setE, g.v0], by simp [lookE_setE, g.v1], by simp [lookE_setE, g.v5], by simp [lookE_setE, g.v6], by simp [lookE_setE], by simp [lookE_setE, g.v8], by simp [lookE_setE]⟩⟩
      obtain ⟨st', q1, q2, q3, q4⟩ := this
      exact ⟨st', _, q1, by rw [q2]; simp, q3, by rw [q2]; exact (ho.set hq1 _).app _, .inr ⟨by simp, q, hq1, by rw [q2]; simp; omega, by simp, by rw [q2]; exact get_app (by rw [List.getElem?_set_self hq2]; simp) _⟩, q4⟩
    · have e0 : tupV t = .list 1 (t.map (.int .i64)) := by rw [tupV, if_neg ht0]
      rw [e0] at hld
      have hne : t.isEmpty = false := by simp [ht0]
      have htk : List.take (t.length + 1) (t.map (V.int .i64) ++ [V.int .i64 (x : Int)]) = t.map (V.int .i64) ++ [V.int .i64 (x : Int)] := List.take_of_length_le (by simp)
      have hcap : t.length * 9 ≤ 1099511627776 := by omega
      have hcap2 : (t.length + 1) * 9 ≤ 1099511627776 := by omega
      have : ∃ st', execL tab F26L0 st = some (.normal, st') ∧ st'.H = H.set q (.row 1 (L.map tupV ++ [tupV (t ++ [(x : Int)])]) false) ++ [.row 1 (t.map (.int .i64) ++ [.int .i64 (x : Int)]) true] ∧ st'.low = n ∧ G sv cv v5 (.sref q 1 0 (L.length + 1) (L.length + 1)) m k (x + 1) st'.vE := by
        refine ⟨_, by simp [F26L0, callBody, zipE, execL_seq, execL_region, execL_cond, execL_skip, execL_ret, execL_exit, execL_block, execOps, wantedA, S_mv, S_pick, S_bin, S_un, S_call0, S_call1, S_extract, S_nilEq, S_load, S_alloc, Opd.ev, lookupE, lookE_setE, St.put, binA, unA, boolOf, freezeVs, freezeV, freeze1, isP, isPs, resultsA, resultA, finish, old, olds, flat, movedH_same, Nat.min_self, loadA_pin, cellsV_int, cellsV_lst, h1, h2, n0, g.v0, g.v1, g.v5, g.v6, g.v7, g.v8, g.v9, S_index, hs.sl, hc.sl, hgc, hgd, natOf_nonneg _ hc0, hx, hidx, hld, S_lit, S_append, step, fillL, zeroElem, elems, cellsOk, cellOk, cellsOk_ints, cellsOk_ints2, freeze_ints, hne, ht0, hcap, hcap2, hip, htk, set_off0, get_off0, hw, get_app hr, hcapL]; rfl, ?_⟩
        exact ⟨by simp [tupV_snoc, List.set_append_left, hq2], by simp; omega, ⟨by simp [lookE_setE, g.v0], by simp [lookE_setE, g.v1], by simp [lookE_setE, g.v5], by simp [lookE_setE, g.v6], by simp [lookE_setE], by simp [lookE_setE, g.v8], by simp [lookE_setE]⟩⟩
      obtain ⟨st', q1, q2, q3, q4⟩ := this
      exact ⟨st', _, q1, by rw [q2]; simp, q3, by rw [q2]; exact (ho.set hq1 _).app _, .inr ⟨by simp, q, hq1, by rw [q2]; simp; omega, by simp, by rw [q2]; exact get_app (by rw [List.getElem?_set_self hq2]; simp) _⟩, q4⟩
end Go.Abs.T09
/- The reference's Tuples. -/
namespace Go.Abs.T09
open Go Go.Abs

/-- As for_loop, where the list may be a row that grows. -/
theorem for_loop2 {tab : Nat → Option Fun} {b i xs t1 t2 t3 t4 t5 blk ex : Nat} {body : ACode} {I : Nat → St → Prop} {Q : X → St → Prop} {N : Nat} (hN : N < 4611686018427387904) (hbi : b ≠ i) (hex : ex ≠ blk) (ht : t2 ≠ t1 ∧ t3 ≠ t1 ∧ t3 ≠ t2 ∧ t5 ≠ t4)
    (hI : ∀ k st, I k st → lookupE st.vE i = .int .i64 k ∧ (∀ (call : CallT) (ev : Opd → V) (low : Nat) (x : Opd), ev x = lookupE st.vE xs → stepC call ev st.H low (.len 1 x) = some (.int .i64 N, st.H, low)) ∧ st.low ≤ st.H.length)
    (round : ∀ k st, k < N → I k st → ∃ x st2, execL tab body { st with tE := [], vE := setE st.vE b (.bool true) } = some (x, st2) ∧
      if x = .normal ∨ x = .exit blk then lookupE st2.vE i = .int .i64 k ∧ st2.low ≤ st2.H.length ∧ I (k + 1) { st2 with tE := [], vE := setE st2.vE i (.int .i64 ((k + 1 : Nat) : Int)) } else Q x st2)
    (done : ∀ st, I N st → Q (.exit ex) { st with tE := [], vE := setE st.vE b (.bool false) }) :
    ∀ j k st, k + j = N → I k st → ∃ x st', execL tab (.loop (forBody b i xs t1 t2 t3 t4 t5 blk ex body)) st = some (x, st') ∧ Q x st' := by
  obtain ⟨n1, n2, n3, n4⟩ := ht
  have hlt : ∀ k st, I k st → execL tab (.region [⟨some (t1, false), .mv (.var i), none⟩, ⟨some (t2, false), .mv (.var xs), none⟩, ⟨some (t3, false), .len 1 (.tmp t2), none⟩, ⟨some (b, true), .bin .lss (.tmp t1) (.tmp t3), none⟩] none) st = some (.normal, { st with tE := [], vE := setE st.vE b (.bool (decide (k < N))) }) := fun k st h => by
    obtain ⟨h1, h2, h4⟩ := hI k st h
    rw [execL_region]
    simp [execOps, wantedA, S_bin, S_mv, h2, Opd.ev, h1, lookupE, n1, n2, n3, binA, St.put, Nat.min_eq_left h4]
  intro j
  induction j with
  | zero =>
    intro k st hk h
    have : k = N := by omega
    subst this
    refine ⟨.exit ex, _, ?_, done st h⟩
    rw [execL_loop]
    simp only [forBody]
    rw [execL_seq, execL_seq, hlt k st h]
    simp only []
    rw [execL_cond]
    simp [Opd.ev, lookE_setE, execL_exit]
  | succ j ih =>
    intro k st hk h
    obtain ⟨x, st2, h1, h2⟩ := round k st (by omega) h
    have hpre : ∀ r, execL tab (.seq (.block blk body) (.region [⟨some (t4, false), .mv (.var i), none⟩, ⟨some (t5, false), .bin .add (.tmp t4) (.const (.int .i64 1)), none⟩, ⟨some (i, true), .mv (.tmp t5), none⟩] none)) { st with tE := [], vE := setE st.vE b (.bool true) } = r →
        execL tab (forBody b i xs t1 t2 t3 t4 t5 blk ex body) st = r := fun r hr => by
      simp only [forBody]
      rw [execL_seq, execL_seq, hlt k st h]
      simp only []
      rw [execL_cond]
      have hd : decide (k < N) = true := by simp; omega
      simp [Opd.ev, lookE_setE, execL_skip, hd, hr]
    by_cases hx : x = .normal ∨ x = .exit blk
    · rw [if_pos hx] at h2
      obtain ⟨h2, h4, h3⟩ := h2
      have hblk : execL tab (.block blk body) { st with tE := [], vE := setE st.vE b (.bool true) } = some (.normal, st2) := by
        rw [execL_block, h1]
        rcases hx with rfl | rfl
        · rfl
        · simp
      have hinc : execL tab (.region [⟨some (t4, false), .mv (.var i), none⟩, ⟨some (t5, false), .bin .add (.tmp t4) (.const (.int .i64 1)), none⟩, ⟨some (i, true), .mv (.tmp t5), none⟩] none) st2 = some (.normal, { st2 with tE := [], vE := setE st2.vE i (.int .i64 ((k + 1 : Nat) : Int)) }) := by
        have hw : IntKind.i64.wrap ((k : Int) + 1) = ((k + 1 : Nat) : Int) := by rw [wrap_small] <;> omega
        rw [execL_region]
        simp [execOps, wantedA, S_bin, S_mv, Opd.ev, h2, binA, hw, St.put, lookupE, Nat.min_eq_left h4]
      have hround := hpre _ (by rw [execL_seq, hblk])
      simp only [hinc] at hround
      obtain ⟨x', st', h5, h6⟩ := ih (k + 1) _ (by omega) h3
      exact ⟨x', st', by rw [execL_loop, hround]; exact h5, h6⟩
    · rw [if_neg hx] at h2
      have hblk : execL tab (.block blk body) { st with tE := [], vE := setE st.vE b (.bool true) } = some (x, st2) := by
        rw [execL_block, h1]
        cases x with
        | normal => exact absurd (.inl rfl) hx
        | exit id =>
          have : id ≠ blk := fun e => hx (.inr (by rw [e]))
          simp [this]
        | ret => rfl
      have hround := hpre (some (x, st2)) (by
        rw [execL_seq, hblk]
        cases x with
        | normal => exact absurd (.inl rfl) hx
        | exit id => rfl
        | ret => rfl)
      refine ⟨x, st2, ?_, h2⟩
      rw [execL_loop, hround]
      cases x with
      | normal => exact absurd (.inl rfl) hx
      | exit id => rfl
      | ret => rfl

theorem tupsF_lens {ds : List Int} (hd : ∀ d ∈ ds, 1 ≤ d) : ∀ k, k ≤ ds.length → ∀ t ∈ tupsF (ds.take k), t.length = k
  | 0, _, t, ht => by simp [tupsF] at ht; rw [ht]; rfl
  | k + 1, hk, t, ht => by
    obtain ⟨d, hdk⟩ : ∃ d, ds[k]? = some d := ⟨_, List.getElem?_eq_getElem (by omega)⟩
    have e : ds.take (k + 1) = ds.take k ++ [d] := by rw [List.take_add_one, hdk]; rfl
    rw [e, tupsF_snoc] at ht
    simp only [grow, List.mem_flatMap, List.mem_map] at ht
    obtain ⟨u, hu, x, -, rfl⟩ := ht
    have := tupsF_lens hd k (by omega) u hu
    simp [this]

def exts (t : List Int) (d : Int) : List (List Int) := (List.range d.toNat).map fun x : Nat => t ++ [(x : Int)]
theorem exts_drop (t : List Int) {d : Int} {x : Nat} (h : (x : Int) < d) : (exts t d).drop x = (t ++ [(x : Int)]) :: (exts t d).drop (x + 1) := by
  have hx : (exts t d)[x]? = some (t ++ [(x : Int)]) := by
    have : x < d.toNat := by omega
    simp [exts, this]
  obtain ⟨h1, h2⟩ := List.getElem?_eq_some_iff.1 hx
  rw [List.drop_eq_getElem_cons h1, h2]

set_option maxHeartbeats 1000000 in
theorem g_in {n h5 k m : Nat} {sv cv v5 : V} {sizes cols : List Int} {l : List (List Int)} {t : List Int} {c d : Int} (hs : VI sv sizes) (hc : VI cv cols) (hn : n ≤ h5) (hk : l[k]? = some t)
    (hc0 : 0 ≤ c) (hm : cols[m]? = some c) (hd : sizes[c.toNat]? = some d) (hd1 : 1 ≤ d) (hd6 : d ≤ 6) (ht : t.length ≤ 1000) :
    ∀ (r x : Nat) (L : List (List Int)) (v7 : V) (st : St), x + r = d.toNat → L.length + r ≤ 1000 → st.low = n → h5 ≤ st.H.length → Out n h5 st.H v5 l → Acc h5 st.H v7 L → G sv cv v5 v7 m k x st.vE →
      ∃ st' v7', execL tab (.loop F26L0) st = some (.exit 4, st') ∧ st'.low = n ∧ h5 ≤ st'.H.length ∧ Out n h5 st'.H v5 l ∧ Acc h5 st'.H v7' (L ++ (exts t d).drop x) ∧ G sv cv v5 v7' m k d.toNat st'.vE := by
  intro r
  induction r with
  | zero =>
    intro x L v7 st hx hL hlow hh ho ha g
    have hgc := hc.get hm
    have hgd := hs.get hd
    have hxd : ¬ (x : Int) < d := by omega
    have n0 : min n st.H.length = n := Nat.min_eq_left (by omega)
    rw [execL_loop]
    refine ⟨_, v7, by simp [F26L0, callBody, zipE, execL_seq, execL_region, execL_cond, execL_skip, execL_ret, execL_exit, execL_block, execOps, wantedA, S_mv, S_pick, S_bin, S_un, S_call0, S_call1, S_extract, S_nilEq, S_load, S_alloc, Opd.ev, lookupE, lookE_setE, St.put, binA, unA, boolOf, freezeVs, freezeV, freeze1, isP, isPs, resultsA, resultA, finish, old, olds, flat, movedH_same, Nat.min_self, loadA, readCells, cellsV_int, hlow, n0, g.v0, g.v1, g.v5, g.v6, g.v7, g.v8, g.v9, S_index, hs.sl, hc.sl, hgc, hgd, natOf_nonneg _ hc0, hxd]; rfl, ?_⟩
    have hx' : x = d.toNat := by omega
    refine ⟨by simp [n0], by simpa using hh, by simpa using ho, ?_, ⟨by simp [lookE_setE, g.v0], by simp [lookE_setE, g.v1], by simp [lookE_setE, g.v5], by simp [lookE_setE, g.v6], by simp [lookE_setE, g.v7], by simp [lookE_setE, g.v8], by simp [lookE_setE, g.v9, hx']⟩⟩
    have : (exts t d).drop x = [] := List.drop_of_length_le (by simp [exts]; omega)
    rw [this, List.append_nil]
    exact ha
  | succ r ih =>
    intro x L v7 st hx hL hlow hh ho ha g
    have hxd : (x : Int) < d := by omega
    obtain ⟨st1, v1, q1, q2, q3, q4, q5, q6⟩ := g_step hs hc rfl hlow hn hh ho ha hk hc0 hm hd hxd hd6 (by omega) ht g
    obtain ⟨st', v', r1, r2, r3, r4, r5, r6⟩ := ih (x + 1) _ v1 st1 (by omega) (by simp; omega) q3 (by omega) q4 q5 q6
    refine ⟨st', v', by rw [execL_loop, q1]; exact r1, r2, r3, r4, ?_, r6⟩
    rw [exts_drop t hxd]
    simpa using r5

def F26LB : ACode := .seq (.region [⟨some (9, true), .mv (.const (.int .i64 0)), none⟩] none) (.block 4 (.loop F26L0))
theorem F26L1_for : F26L1 = forBody 44 8 5 41 42 43 45 46 3 2 F26LB := rfl
def F26LC : ACode := .seq (.seq (.region [⟨some (26, false), .mv (.var 1), none⟩, ⟨some (27, false), .mv (.var 6), none⟩, ⟨some (28, false), .indexAddr 1 (.tmp 26) (.tmp 27), none⟩, ⟨some (29, false), .load none (.tmp 28), none⟩, ⟨some (30, false), .bin .lss (.tmp 29) (.const (.int .i64 0)), none⟩, ⟨some (31, false), .mv (.tmp 30), none⟩, ⟨some (32, false), .mv (.var 1), some ((.tmp 31), false)⟩, ⟨some (33, false), .mv (.var 6), some ((.tmp 31), false)⟩, ⟨some (34, false), .indexAddr 1 (.tmp 32) (.tmp 33), some ((.tmp 31), false)⟩, ⟨some (35, false), .load none (.tmp 34), some ((.tmp 31), false)⟩, ⟨some (36, false), .mv (.var 0), some ((.tmp 31), false)⟩, ⟨some (37, false), .len 1 (.tmp 36), some ((.tmp 31), false)⟩, ⟨some (38, false), .bin .geq (.tmp 35) (.tmp 37), some ((.tmp 31), false)⟩, ⟨some (39, true), .pick (.tmp 31) (.const (.bool true)) (.tmp 38), none⟩] none) (.cond (.var 39) (.seq (.region [⟨some (4, true), .mv (.const (.nil0)), none⟩] none) (.ret)) (.skip))) (.seq (.region [⟨some (40, false), .lit 1 [.nil0] 0 [] true, none⟩, ⟨some (7, true), .mv (.tmp 40), none⟩] none) (.seq (.seq (.region [⟨some (8, true), .mv (.const (.int .i64 0)), none⟩] none) (.block 2 (.loop F26L1))) (.region [⟨some (70, false), .mv (.var 7), none⟩, ⟨some (5, true), .mv (.tmp 70), none⟩] none)))
theorem F26L2_for : F26L2 = forBody 23 6 1 20 21 22 24 25 1 0 F26LC := rfl
def F26Pa : ACode := .seq (.region [⟨some (26, false), .mv (.var 1), none⟩, ⟨some (27, false), .mv (.var 6), none⟩, ⟨some (28, false), .indexAddr 1 (.tmp 26) (.tmp 27), none⟩, ⟨some (29, false), .load none (.tmp 28), none⟩, ⟨some (30, false), .bin .lss (.tmp 29) (.const (.int .i64 0)), none⟩, ⟨some (31, false), .mv (.tmp 30), none⟩, ⟨some (32, false), .mv (.var 1), some ((.tmp 31), false)⟩, ⟨some (33, false), .mv (.var 6), some ((.tmp 31), false)⟩, ⟨some (34, false), .indexAddr 1 (.tmp 32) (.tmp 33), some ((.tmp 31), false)⟩, ⟨some (35, false), .load none (.tmp 34), some ((.tmp 31), false)⟩, ⟨some (36, false), .mv (.var 0), some ((.tmp 31), false)⟩, ⟨some (37, false), .len 1 (.tmp 36), some ((.tmp 31), false)⟩, ⟨some (38, false), .bin .geq (.tmp 35) (.tmp 37), some ((.tmp 31), false)⟩, ⟨some (39, true), .pick (.tmp 31) (.const (.bool true)) (.tmp 38), none⟩] none) (.cond (.var 39) (.seq (.region [⟨some (4, true), .mv (.const (.nil0)), none⟩] none) (.ret)) (.skip))
def F26Pb : ACode := .region [⟨some (40, false), .lit 1 [.nil0] 0 [] true, none⟩, ⟨some (7, true), .mv (.tmp 40), none⟩] none
def F26Pc : ACode := .seq (.region [⟨some (8, true), .mv (.const (.int .i64 0)), none⟩] none) (.block 2 (.loop F26L1))
def F26Pd : ACode := .region [⟨some (70, false), .mv (.var 7), none⟩, ⟨some (5, true), .mv (.tmp 70), none⟩] none
theorem F26LC_parts : F26LC = .seq F26Pa (.seq F26Pb (.seq F26Pc (F26Pd))) := rfl

set_option maxHeartbeats 1000000 in
theorem g_out {n h5 m : Nat} {sv cv v5 : V} {sizes cols : List Int} {l : List (List Int)} {c d : Int} (hs : VI sv sizes) (hc : VI cv cols) (hn : n ≤ h5)
    (hc0 : 0 ≤ c) (hm : cols[m]? = some c) (hd : sizes[c.toNat]? = some d) (hd1 : 1 ≤ d) (hd6 : d ≤ 6) (ht : ∀ t ∈ l, t.length ≤ 1000) (hl : l.length * d.toNat ≤ 994) {st : St}
    (hlow : st.low = n) (hh : h5 ≤ st.H.length) (ho : Out n h5 st.H v5 l) (l0 : lookupE st.vE 0 = sv) (l1 : lookupE st.vE 1 = cv) (l5 : lookupE st.vE 5 = v5) (l6 : lookupE st.vE 6 = .int .i64 m) (l7 : lookupE st.vE 7 = .emp) (l8 : lookupE st.vE 8 = .int .i64 (0 : Nat)) :
    ∃ st' v7', execL tab (.loop F26L1) st = some (.exit 2, st') ∧ st'.low = n ∧ h5 ≤ st'.H.length ∧ Acc h5 st'.H v7' (grow l d) ∧ lookupE st'.vE 0 = sv ∧ lookupE st'.vE 1 = cv ∧ lookupE st'.vE 6 = .int .i64 m ∧ lookupE st'.vE 7 = v7' := by
  have hll : l.length ≤ 994 := by
    have : l.length * 1 ≤ l.length * d.toNat := Nat.mul_le_mul_left _ (by omega)
    omega
  have key := for_loop2 (tab := tab) (b := 44) (i := 8) (xs := 5) (t1 := 41) (t2 := 42) (t3 := 43) (t4 := 45) (t5 := 46) (blk := 3) (ex := 2) (body := F26LB)
    (I := fun k st => st.low = n ∧ h5 ≤ st.H.length ∧ Out n h5 st.H v5 l ∧ lookupE st.vE 0 = sv ∧ lookupE st.vE 1 = cv ∧ lookupE st.vE 5 = v5 ∧ lookupE st.vE 6 = .int .i64 m ∧ lookupE st.vE 8 = .int .i64 k ∧ ∃ v7, lookupE st.vE 7 = v7 ∧ Acc h5 st.H v7 (grow (l.take k) d))
    (Q := fun x st' => x = .exit 2 ∧ st'.low = n ∧ h5 ≤ st'.H.length ∧ lookupE st'.vE 0 = sv ∧ lookupE st'.vE 1 = cv ∧ lookupE st'.vE 6 = .int .i64 m ∧ ∃ v7', lookupE st'.vE 7 = v7' ∧ Acc h5 st'.H v7' (grow l d))
    (N := l.length) (by omega) (by decide) (by decide) (by decide)
    (fun k st h => ⟨h.2.2.2.2.2.2.2.1, fun call ev low x hx => h.2.2.1.len call ev low x (hx.trans h.2.2.2.2.2.1), by rw [h.1]; exact Nat.le_trans hn h.2.1⟩)
    (by
      rintro k st hk ⟨q1, q2, q3, q4, q5, q6, q7, q8, v7, q9, q10⟩
      obtain ⟨t, hkt⟩ : ∃ t, l[k]? = some t := ⟨_, List.getElem?_eq_getElem hk⟩
      have n0 : min n st.H.length = n := Nat.min_eq_left (by omega)
      have e1 : ∃ s1, execL tab (.region [⟨some (9, true), .mv (.const (.int .i64 0)), none⟩] none) { st with tE := [], vE := setE st.vE 44 (.bool true) } = some (.normal, s1) ∧ s1.H = st.H ∧ s1.low = n ∧ G sv cv v5 v7 m k 0 s1.vE := by
        refine ⟨_, by simp [callBody, zipE, execL_seq, execL_region, execL_cond, execL_skip, execL_ret, execL_exit, execL_block, execOps, wantedA, S_mv, S_pick, S_bin, S_un, S_call0, S_call1, S_extract, S_nilEq, S_load, S_alloc, Opd.ev, lookupE, lookE_setE, St.put, binA, unA, boolOf, freezeVs, freezeV, freeze1, isP, isPs, resultsA, resultA, finish, old, olds, flat, movedH_same, Nat.min_self, loadA, readCells, cellsV_int, q1, n0]; rfl, ?_⟩
        exact ⟨by simp, by simp, ⟨by simp [lookE_setE, q4], by simp [lookE_setE, q5], by simp [lookE_setE, q6], by simp [lookE_setE, q7], by simp [lookE_setE, q9], by simp [lookE_setE, q8], by simp [lookE_setE]⟩⟩
      obtain ⟨s1, a1, a2, a3, a4⟩ := e1
      have hgl : (grow (l.take k) d).length + d.toNat ≤ 1000 := by
        rw [grow_length, List.length_take]
        have : min k l.length * d.toNat ≤ l.length * d.toNat := Nat.mul_le_mul_right _ (Nat.min_le_right _ _)
        omega
      obtain ⟨s2, v8, b1, b2, b3, b4, b5, b6⟩ := g_in hs hc hn hkt hc0 hm hd hd1 hd6 (ht t (List.mem_of_getElem? hkt)) d.toNat 0 (grow (l.take k) d) v7 s1 (by omega) hgl a3 (by rw [a2]; exact q2) (by rw [a2]; exact q3) (by rw [a2]; exact q10) a4
      refine ⟨.normal, s2, by rw [F26LB, execL_seq, a1]; simp only []; rw [execL_block, b1]; rfl, ?_⟩
      simp only [true_or, if_true]
      refine ⟨b6.v8, by rw [b2]; omega, b2, b3, b4, by simp [lookE_setE, b6.v0], by simp [lookE_setE, b6.v1], by simp [lookE_setE, b6.v5], by simp [lookE_setE, b6.v6], by simp [lookE_setE], v8, by simp [lookE_setE, b6.v7], ?_⟩
      rw [grow_take l d hkt]
      exact b5)
    (by
      rintro st ⟨q1, q2, q3, q4, q5, q6, q7, q8, v7, q9, q10⟩
      rw [List.take_length] at q10
      exact ⟨rfl, q1, q2, by simp [lookE_setE, q4], by simp [lookE_setE, q5], by simp [lookE_setE, q7], v7, by simp [lookE_setE, q9], q10⟩)
  obtain ⟨x, st', r1, rfl, r2, r3, r4, r5, r6, v7', r7, r8⟩ := key l.length 0 st (by omega) ⟨hlow, hh, ho, l0, l1, l5, l6, l8, .emp, l7, .inl ⟨rfl, by simp [grow]⟩⟩
  rw [← F26L1_for] at r1
  exact ⟨st', v7', r1, r2, r3, r8, r4, r5, r6, r7⟩

theorem grow_ne {l : List (List Int)} {d : Int} (hl : l ≠ []) (hd : 1 ≤ d) : grow l d ≠ [] := fun h => by
  have e := grow_length l d
  rw [h] at e
  have h1 : 0 < l.length := List.length_pos_iff.2 hl
  have h2 := Nat.mul_pos h1 (show 0 < d.toNat by omega)
  rw [List.length_nil] at e
  omega

set_option maxHeartbeats 1000000 in
theorem t_loop {sv cv : V} {sizes cols : List Int} {H : Heap} (hs : VI sv sizes) (hc : VI cv cols) (hok : sizes.all okSize = true) (h3 : cols.length ≤ 3) :
    ∃ x st', execL tab (.loop F26L2) { tE := [], vE := [(0, sv), (1, cv), (4, .nil0), (17, .bool false), (5, .list 1 [.emp]), (6, .int .i64 0)], H := H, low := H.length } = some (x, st') ∧ st'.low = H.length ∧ H.length ≤ st'.H.length ∧
      ((x = .exit 0 ∧ cols.any (badCol sizes) = false ∧ ∃ v5, lookupE st'.vE 5 = v5 ∧ Out H.length st'.H.length st'.H v5 (tupsF (dimsOf sizes cols))) ∨ (x = .ret ∧ cols.any (badCol sizes) = true ∧ lookupE st'.vE 4 = .nil0)) := by
  have hdl : (dimsOf sizes cols).length = cols.length := by simp [dimsOf]
  have key := for_loop (tab := tab) (b := 23) (i := 6) (xs := 1) (t1 := 20) (t2 := 21) (t3 := 22) (t4 := 24) (t5 := 25) (blk := 1) (ex := 0) (es := 1) (body := F26LC)
    (I := fun m st => st.low = H.length ∧ H.length ≤ st.H.length ∧ lookupE st.vE 0 = sv ∧ lookupE st.vE 1 = cv ∧ lookupE st.vE 6 = .int .i64 m ∧ (∀ c ∈ cols.take m, badCol sizes c = false) ∧ 1 ≤ prodI ((dimsOf sizes cols).take m) ∧ prodI ((dimsOf sizes cols).take m) ≤ 6 ^ m ∧
      (∀ d ∈ (dimsOf sizes cols).take m, 1 ≤ d) ∧ ∃ v5, lookupE st.vE 5 = v5 ∧ Out H.length st.H.length st.H v5 (tupsF ((dimsOf sizes cols).take m)))
    (Q := fun x st' => st'.low = H.length ∧ H.length ≤ st'.H.length ∧ ((x = .exit 0 ∧ cols.any (badCol sizes) = false ∧ ∃ v5, lookupE st'.vE 5 = v5 ∧ Out H.length st'.H.length st'.H v5 (tupsF (dimsOf sizes cols))) ∨ (x = .ret ∧ cols.any (badCol sizes) = true ∧ lookupE st'.vE 4 = .nil0)))
    (N := cols.length) hc.lt (by decide) (by decide) (by decide)
    (fun k st h => ⟨h.2.2.2.2.1, by rw [h.2.2.2.1]; exact hc.sl, by rw [h.2.2.2.1]; exact hc.len, by rw [h.1]; exact h.2.1⟩)
    (by
      rintro k st hk ⟨q1, q2, q3, q4, q5, q6, q7, q8, q9, v5, q10, q11⟩
      obtain ⟨c, hn⟩ : ∃ c, cols[k]? = some c := ⟨_, List.getElem?_eq_getElem hk⟩
      have hg := hc.get hn
      have hmem := List.mem_of_getElem? hn
      have n0 : min H.length st.H.length = H.length := Nat.min_eq_left q2
      cases hb : badCol sizes c with
      | true =>
        have hany : cols.any (badCol sizes) = true := List.any_eq_true.2 ⟨c, hmem, hb⟩
        by_cases a1 : c < 0
        · refine ⟨.ret, _, by rw [F26LC_parts]; simp [F26Pa, callBody, zipE, execL_seq, execL_region, execL_cond, execL_skip, execL_ret, execL_exit, execL_block, execOps, wantedA, S_mv, S_pick, S_bin, S_un, S_call0, S_call1, S_extract, S_nilEq, S_load, S_alloc, Opd.ev, lookupE, lookE_setE, St.put, binA, unA, boolOf, freezeVs, freezeV, freeze1, isP, isPs, resultsA, resultA, finish, old, olds, flat, movedH_same, Nat.min_self, loadA, readCells, cellsV_int, q1, q3, q4, q5, n0, S_index, hc.sl, hg, a1]; rfl, ?_⟩
          simp only [reduceCtorEq, or_self, if_false]
          exact ⟨by simp, by simpa using q2, .inr ⟨trivial, hany, by simp [lookE_setE]⟩⟩
        · have a2 : (sizes.length : Int) ≤ c := by simp [badCol] at hb; omega
          refine ⟨.ret, _, by rw [F26LC_parts]; simp [F26Pa, callBody, zipE, execL_seq, execL_region, execL_cond, execL_skip, execL_ret, execL_exit, execL_block, execOps, wantedA, S_mv, S_pick, S_bin, S_un, S_call0, S_call1, S_extract, S_nilEq, S_load, S_alloc, Opd.ev, lookupE, lookE_setE, St.put, binA, unA, boolOf, freezeVs, freezeV, freeze1, isP, isPs, resultsA, resultA, finish, old, olds, flat, movedH_same, Nat.min_self, loadA, readCells, cellsV_int, q1, q3, q4, q5, n0, S_index, hc.sl, S_len 1, hs.sl, hs.len, hg, a1, a2]; rfl, ?_⟩
          simp only [reduceCtorEq, or_self, if_false]
          exact ⟨by simp, by simpa using q2, .inr ⟨trivial, hany, by simp [lookE_setE]⟩⟩
      | false =>
        have hin : 0 ≤ c ∧ c < sizes.length := by simp [badCol] at hb; omega
        have a1 : ¬ c < 0 := by omega
        have a2 : ¬ (sizes.length : Int) ≤ c := by omega
        obtain ⟨d, hsd⟩ : ∃ d, sizes[c.toNat]? = some d := ⟨_, List.getElem?_eq_getElem (by omega)⟩
        have hdim : (dimsOf sizes cols)[k]? = some d := by simp [dimsOf, hn, hsd]
        have hdo : 1 ≤ d ∧ d ≤ 6 := by
          have := List.all_eq_true.1 hok d (List.mem_of_getElem? hsd)
          simpa [okSize] using this
        have hp := prodI_take hdim
        have hmb := mul_bound q7 q8 hdo.1 hdo.2
        have h216 := pow6 (k := k + 1) (by omega)
        have htk : (dimsOf sizes cols).take (k + 1) = (dimsOf sizes cols).take k ++ [d] := by rw [List.take_add_one, hdim]; rfl
        have hlen := tupsF_length q9
        have hlens : ∀ t ∈ tupsF ((dimsOf sizes cols).take k), t.length ≤ 1000 := fun t ht => by
          have := tupsF_lens q9 k (by simp; omega) t (by rw [List.take_take, Nat.min_self]; exact ht)
          omega
        have hl994 : (tupsF ((dimsOf sizes cols).take k)).length * d.toNat ≤ 994 := by
          have e : (((tupsF ((dimsOf sizes cols).take k)).length * d.toNat : Nat) : Int) = prodI ((dimsOf sizes cols).take k) * d := by
            rw [Int.natCast_mul, hlen, Int.toNat_of_nonneg (by omega)]
          omega
        obtain ⟨s1, b1, b2, b3, b4, b5, b6, b7⟩ : ∃ s1, execL tab F26Pa { st with tE := [], vE := setE st.vE 23 (.bool true) } = some (.normal, s1) ∧ s1.H = st.H ∧ s1.low = H.length ∧ lookupE s1.vE 0 = sv ∧ lookupE s1.vE 1 = cv ∧ lookupE s1.vE 5 = v5 ∧ lookupE s1.vE 6 = .int .i64 k := by
          refine ⟨_, by simp [F26Pa, callBody, zipE, execL_seq, execL_region, execL_cond, execL_skip, execL_ret, execL_exit, execL_block, execOps, wantedA, S_mv, S_pick, S_bin, S_un, S_call0, S_call1, S_extract, S_nilEq, S_load, S_alloc, Opd.ev, lookupE, lookE_setE, St.put, binA, unA, boolOf, freezeVs, freezeV, freeze1, isP, isPs, resultsA, resultA, finish, old, olds, flat, movedH_same, Nat.min_self, loadA, readCells, cellsV_int, q1, q3, q4, q5, n0, S_index, hc.sl, S_len 1, hs.sl, hs.len, hg, a1, a2]; rfl, ?_⟩
          exact ⟨by simp, by simp, by simp [lookE_setE, q3], by simp [lookE_setE, q4], by simp [lookE_setE, q10], by simp [lookE_setE, q5]⟩
        obtain ⟨s2, c1, c2, c3, c4, c5, c6, c7, c8⟩ : ∃ s2, execL tab F26Pb s1 = some (.normal, s2) ∧ s2.H = st.H ∧ s2.low = H.length ∧ lookupE s2.vE 0 = sv ∧ lookupE s2.vE 1 = cv ∧ lookupE s2.vE 5 = v5 ∧ lookupE s2.vE 6 = .int .i64 k ∧ lookupE s2.vE 7 = .emp := by
          refine ⟨_, by simp [F26Pb, callBody, zipE, execL_seq, execL_region, execL_cond, execL_skip, execL_ret, execL_exit, execL_block, execOps, wantedA, S_mv, S_pick, S_bin, S_un, S_call0, S_call1, S_extract, S_nilEq, S_load, S_alloc, Opd.ev, lookupE, lookE_setE, St.put, binA, unA, boolOf, freezeVs, freezeV, freeze1, isP, isPs, resultsA, resultA, finish, old, olds, flat, movedH_same, Nat.min_self, loadA, readCells, cellsV_int, b2, b3, n0, S_lit, step, fillL]; rfl, ?_⟩
          exact ⟨by simp, by simp, by simp [lookE_setE, b4], by simp [lookE_setE, b5], by simp [lookE_setE, b6], by simp [lookE_setE, b7], by simp [lookE_setE]⟩
        obtain ⟨s3, d1, d2, d3, d4, d5, d6, d7, d8, d9⟩ : ∃ s3, execL tab (.region [⟨some (8, true), .mv (.const (.int .i64 0)), none⟩] none) s2 = some (.normal, s3) ∧ s3.H = st.H ∧ s3.low = H.length ∧ lookupE s3.vE 0 = sv ∧ lookupE s3.vE 1 = cv ∧ lookupE s3.vE 5 = v5 ∧ lookupE s3.vE 6 = .int .i64 k ∧ lookupE s3.vE 7 = .emp ∧ lookupE s3.vE 8 = .int .i64 (0 : Nat) := by
          refine ⟨_, by simp [callBody, zipE, execL_seq, execL_region, execL_cond, execL_skip, execL_ret, execL_exit, execL_block, execOps, wantedA, S_mv, S_pick, S_bin, S_un, S_call0, S_call1, S_extract, S_nilEq, S_load, S_alloc, Opd.ev, lookupE, lookE_setE, St.put, binA, unA, boolOf, freezeVs, freezeV, freeze1, isP, isPs, resultsA, resultA, finish, old, olds, flat, movedH_same, Nat.min_self, loadA, readCells, cellsV_int, c2, c3, n0]; rfl, ?_⟩
          exact ⟨by simp [c2], by simp, by simp [lookE_setE, c4], by simp [lookE_setE, c5], by simp [lookE_setE, c6], by simp [lookE_setE, c7], by simp [lookE_setE, c8], by simp [lookE_setE]⟩
        obtain ⟨s4, v8, e1, e2, e3, e4, e5, e6, e7, e8⟩ := g_out (n := H.length) (h5 := st.H.length) (v5 := v5) hs hc q2 hin.1 hn hsd hdo.1 hdo.2 hlens hl994 d3 (by rw [d2]; exact Nat.le_refl _) (by rw [d2]; exact q11) d4 d5 d6 d7 d8 d9
        have hne : grow (tupsF ((dimsOf sizes cols).take k)) d ≠ [] := by
          refine grow_ne (fun h => ?_) hdo.1
          rw [h] at hlen
          simp at hlen
          omega
        obtain ⟨s5, f1, f2, f3, f4, f5, f6, f7⟩ : ∃ s5, execL tab F26Pd s4 = some (.normal, s5) ∧ s5.H = s4.H ∧ s5.low = H.length ∧ lookupE s5.vE 0 = sv ∧ lookupE s5.vE 1 = cv ∧ lookupE s5.vE 5 = v8 ∧ lookupE s5.vE 6 = .int .i64 k := by
          have n1 : min H.length s4.H.length = H.length := Nat.min_eq_left (by omega)
          refine ⟨_, by simp [F26Pd, callBody, zipE, execL_seq, execL_region, execL_cond, execL_skip, execL_ret, execL_exit, execL_block, execOps, wantedA, S_mv, S_pick, S_bin, S_un, S_call0, S_call1, S_extract, S_nilEq, S_load, S_alloc, Opd.ev, lookupE, lookE_setE, St.put, binA, unA, boolOf, freezeVs, freezeV, freeze1, isP, isPs, resultsA, resultA, finish, old, olds, flat, movedH_same, Nat.min_self, loadA, readCells, cellsV_int, e2, e8, n1]; rfl, ?_⟩
          exact ⟨by simp, by simp, by simp [lookE_setE, e5], by simp [lookE_setE, e6], by simp [lookE_setE], by simp [lookE_setE, e7]⟩
        refine ⟨.normal, s5, ?_, ?_⟩
        · rw [F26LC_parts, execL_seq, b1]; simp only []; rw [execL_seq, c1]; simp only []; rw [F26Pc, execL_seq, execL_seq, d1]; simp only []; rw [execL_block, e1]; simp only [if_true]; exact f1
        · simp only [true_or, if_true]
          refine ⟨f7, by rw [f3, f2]; omega, f3, by show H.length ≤ s5.H.length; rw [f2]; omega, by simp [lookE_setE, f4], by simp [lookE_setE, f5], by simp [lookE_setE], fun y hy => ?_, by rw [hp]; exact hmb.1, by rw [hp]; exact hmb.2, fun y hy => ?_, v8, by simp [lookE_setE, f6], ?_⟩
          · rw [List.take_add_one, hn] at hy
            simp at hy
            rcases hy with hy | rfl
            · exact q6 y hy
            · exact hb
          · rw [htk] at hy
            simp only [List.mem_append, List.mem_singleton] at hy
            rcases hy with hy | rfl
            · exact q9 y hy
            · exact hdo.1
          · rw [htk, tupsF_snoc]
            show Out H.length s5.H.length s5.H v8 _
            rw [f2]
            rcases e4 with ⟨-, h⟩ | ⟨-, q, g1, g2, g3, g4⟩
            · exact absurd h hne
            · exact .inr ⟨q, by omega, g2, g3, g4⟩)
    (by
      rintro st ⟨q1, q2, q3, q4, q5, q6, q7, q8, q9, v5, q10, q11⟩
      refine ⟨q1, q2, .inl ⟨rfl, ?_, v5, by simp [lookE_setE, q10], ?_⟩⟩
      · rw [List.any_eq_false]; intro c hcm; rw [q6 c (by rw [List.take_length]; exact hcm)]; decide
      · rw [List.take_of_length_le (by rw [hdl]; exact Nat.le_refl _)] at q11
        exact q11)
  have := key cols.length 0 { tE := [], vE := [(0, sv), (1, cv), (4, .nil0), (17, .bool false), (5, .list 1 [.emp]), (6, .int .i64 0)], H := H, low := H.length } (by omega)
    ⟨rfl, Nat.le_refl _, rfl, rfl, rfl, fun m hm => by simp at hm, by simp [prodI], by simp [prodI], fun d hd => by simp at hd, .list 1 [.emp], rfl, .inl rfl⟩
  rw [← F26L2_for] at this
  exact this

/-- What the reference's Tuples returns. -/
def tupsR (sizes cols : List Int) : V := if (goodCols sizes cols && sizes.all okSize) = true then .list 1 ((tupsF (dimsOf sizes cols)).map tupV) else .nil0

theorem isPs_tups (l : List (List Int)) : isPs (l.map tupV) = true := by
  induction l with
  | nil => rfl
  | cons a l ih => simp [isPs, isP_tupV, ih]

set_option maxHeartbeats 1000000 in
theorem tuples26_s {sv cv : V} {sizes cols : List Int} (hs : VI sv sizes) (hc : VI cv cols) (H : Heap) : Ans (.fn 26 [] []) [sv, cv] H (tupsR sizes cols) := by
  have hso := sound_s hs H
  unfold Ans at *
  rw [callL_fn, show tab 26 = some (.code F26) from rfl]
  by_cases h3 : cols.length ≤ 3
  · have h3' : ¬ (3 : Int) < (cols.length : Int) := by omega
    cases hok : sizes.all okSize with
    | false =>
      rw [hok] at hso
      have : tupsR sizes cols = .nil0 := by simp [tupsR, hok]
      rw [this]
      simp [F26, callBody, zipE, execL_seq, execL_region, execL_cond, execL_skip, execL_ret, execL_exit, execL_block, execOps, wantedA, S_mv, S_pick, S_bin, S_un, S_call0, S_call1, S_extract, S_nilEq, S_load, S_alloc, S_box, Opd.ev, lookupE, setE, St.put, binA, unA, boolOf, freezeVs, freezeV, freeze1, isP, isPs, resultsA, resultA, finish, old, olds, flat, movedH_same, Nat.min_self, loadA, readCells, cellsV, S_len 1, hc.sl, hc.len, h3', slE_isP hs.sl, hso]
    | true =>
      rw [hok] at hso
      obtain ⟨x, st', r1, r2, r3, r4⟩ := t_loop (H := H) hs hc hok h3
      have hmin : min H.length st'.H.length = H.length := Nat.min_eq_left r3
      rcases r4 with ⟨rfl, r4, v5, r5, r6⟩ | ⟨rfl, r4, r5⟩
      · have : tupsR sizes cols = .list 1 ((tupsF (dimsOf sizes cols)).map tupV) := by simp [tupsR, goodCols, h3, r4, hok]
        rw [this]
        have hip := isPs_tups (tupsF (dimsOf sizes cols))
        rcases r6 with rfl | ⟨q, hnq, hq, rfl, hr⟩
        · simp [F26, callBody, zipE, execL_seq, execL_region, execL_cond, execL_skip, execL_ret, execL_exit, execL_block, execOps, wantedA, S_mv, S_pick, S_bin, S_un, S_call0, S_call1, S_extract, S_nilEq, S_load, S_alloc, S_box, Opd.ev, lookupE, setE, St.put, binA, unA, boolOf, freezeVs, freezeV, freeze1, isP, isPs, resultsA, resultA, finish, old, olds, flat, movedH_same, Nat.min_self, loadA, readCells, cellsV, S_len 1, hc.sl, hc.len, h3', slE_isP hs.sl, hso, S_lit, step, fillL, zeroElem, cellsOk, cellOk, r1, r2, r5, hip, hmin, lookE_setE]
        · have hrE : ∀ h : q < st'.H.length, st'.H[q]'h = .row 1 ((tupsF (dimsOf sizes cols)).map tupV) false := fun h => by rw [List.getElem?_eq_getElem h] at hr; exact Option.some.inj hr
          have htl : List.take (tupsF (dimsOf sizes cols)).length ((tupsF (dimsOf sizes cols)).map tupV) = (tupsF (dimsOf sizes cols)).map tupV := List.take_of_length_le (by simp)
          simp [F26, callBody, zipE, execL_seq, execL_region, execL_cond, execL_skip, execL_ret, execL_exit, execL_block, execOps, wantedA, S_mv, S_pick, S_bin, S_un, S_call0, S_call1, S_extract, S_nilEq, S_load, S_alloc, S_box, Opd.ev, lookupE, setE, St.put, binA, unA, boolOf, freezeVs, freezeV, freeze1, isP, isPs, resultsA, resultA, finish, old, olds, flat, movedH_same, Nat.min_self, loadA, readCells, cellsV, S_len 1, hc.sl, hc.len, h3', slE_isP hs.sl, hso, S_lit, step, fillL, zeroElem, cellsOk, cellOk, r1, r2, r5, hr, hrE, hip, hmin, lookE_setE, Nat.min_eq_left hnq, htl]
      · have : tupsR sizes cols = .nil0 := by simp [tupsR, goodCols, r4]
        rw [this]
        simp [F26, callBody, zipE, execL_seq, execL_region, execL_cond, execL_skip, execL_ret, execL_exit, execL_block, execOps, wantedA, S_mv, S_pick, S_bin, S_un, S_call0, S_call1, S_extract, S_nilEq, S_load, S_alloc, S_box, Opd.ev, lookupE, setE, St.put, binA, unA, boolOf, freezeVs, freezeV, freeze1, isP, isPs, resultsA, resultA, finish, old, olds, flat, movedH_same, Nat.min_self, loadA, readCells, cellsV, S_len 1, hc.sl, hc.len, h3', slE_isP hs.sl, hso, S_lit, step, fillL, zeroElem, cellsOk, cellOk, r1, r2, r5, hmin, lookE_setE]
  · have h3' : (3 : Int) < (cols.length : Int) := by omega
    have : tupsR sizes cols = .nil0 := by simp [tupsR, goodCols, h3]
    rw [this]
    simp [F26, callBody, zipE, execL_seq, execL_region, execL_cond, execL_skip, execL_ret, execL_exit, execL_block, execOps, wantedA, S_mv, S_pick, S_bin, S_un, S_call0, S_call1, S_extract, S_nilEq, S_load, S_alloc, S_box, Opd.ev, lookupE, setE, St.put, binA, unA, boolOf, freezeVs, freezeV, freeze1, isP, isPs, resultsA, resultA, finish, old, olds, flat, movedH_same, Nat.min_self, loadA, readCells, cellsV, S_len 1, hc.sl, hc.len, h3']
end Go.Abs.T09
