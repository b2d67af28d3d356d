/- For reckoning with the executor by hand. Nothing here speaks of the real memory. -/
import Derived.Test.YteiajndkjnlmiaaGreatDoorXeMono
set_option linter.unusedVariables false
set_option linter.unusedSimpArgs false
namespace Go.Abs
open Go

/-- A slice that is never written, of elements of es cells. -/
def slE (es : Nat) : V → Bool
  | .nil0 | .emp => true
  | .list es' _ => es' == es
  | _ => false

def el : V → List V
  | .list _ ds => ds
  | _ => []

section
variable {call : CallT} {ev : Opd → V} {H : Heap} {low : Nat}

theorem S_mv (x : Opd) : stepC call ev H low (.mv x) = some (ev x, H, low) := rfl
theorem S_pick (c a b : Opd) : stepC call ev H low (.pick c a b) = (boolOf (ev c)).map fun t => (if t then ev a else ev b, H, low) := rfl
theorem S_alloc (z : List V) : stepC call ev H low (.alloc z) = some (.ptr H.length 0, H ++ [.cells z], low) := rfl
theorem S_box (x : Opd) : stepC call ev H low (.box x) = if cellsOk (cellsV (ev x)) then some (.ptr H.length 0, H ++ [.cells (cellsV (ev x))], low) else none := rfl
theorem S_load (sh : Option Nat) (x : Opd) : stepC call ev H low (.load sh x) = (loadA H sh (ev x)).map fun v => (v, H, low) := rfl
theorem S_store (n : Nat) (a x : Opd) : stepC call ev H low (.store n a x) = (storeA H n (ev a) (ev x)).map fun (H', l) => (.undef, H', min low l) := rfl
theorem S_bin (op : BinOp) (x y : Opd) : stepC call ev H low (.bin op x y) = (binA op (ev x) (ev y)).map fun v => (v, H, low) := rfl
theorem S_un (op : UnOp) (x : Opd) : stepC call ev H low (.un op x) = (unA op (ev x)).map fun v => (v, H, low) := rfl
theorem S_nilEq (k : Nat) (neg : Bool) (x y : Opd) : stepC call ev H low (.nilEq k neg x y) = (nilEqA k (ev x) (ev y)).map fun e => (.bool (if neg then !e else e), H, low) := rfl
theorem S_mkFn (i : Nat) (a b : List Opd) : stepC call ev H low (.mkFn i a b) = some (.fn i (a.map ev) (b.map ev), H, low) := rfl
theorem S_mkMap : stepC call ev H low .mkMap = some (.map H.length, H ++ [.map []], low) := rfl
theorem S_extract (x : Opd) (i : Nat) : stepC call ev H low (.extract x i) = match ev x with
    | .tup vs => (vs[i]?).map fun v => (v, H, low)
    | _ => none := rfl
theorem S_field (off : Nat) (sh : Option Nat) (x : Opd) : stepC call ev H low (.field off sh x) = match ev x with
    | .agg vs => (readCells vs off sh).map fun v => (v, H, low)
    | _ => none := rfl
theorem S_fieldAddr (off : Nat) (x : Opd) : stepC call ev H low (.fieldAddr off x) = match ev x with
    | .ptr l o => some (.ptr l (o + off), H, low)
    | .eptr l es i f tag => some (.eptr l es i (f + off) tag, H, low)
    | .pin vs f => some (.pin vs (f + off), H, low)
    | _ => none := rfl
theorem S_call0 (f : Opd) (args : List Opd) : stepC call ev H low (.call false f args) = match freezeVs H low (args.map ev) with
    | some (vs, H', low') => match call (ev f) vs H' with
      | some (v, H'', l) => if flat v = true ∧ H'.length ≤ l then some (v, H, low) else some (v, H'', min low' l)
      | none => none
    | none => none := rfl
theorem S_call1 (f : Opd) (args : List Opd) : stepC call ev H low (.call true f args) = match call (ev f) (args.map ev) H with
    | some (v, H', l) => some (v, H', min low l)
    | none => none := rfl
theorem S_append (es bytes : Nat) (a b : Opd) : stepC call ev H low (.append es bytes a b) = step ev H low (.append es bytes a b) := rfl
theorem S_lit (es : Nat) (z : List V) (n : Nat) (ps : List (Nat × Opd)) (im : Bool) : stepC call ev H low (.lit es z n ps im) = step ev H low (.lit es z n ps im) := rfl
theorem S_mkSlice (es : Nat) (z : List V) (b : Nat) (l c : Opd) : stepC call ev H low (.mkSlice es z b l c) = step ev H low (.mkSlice es z b l c) := rfl
theorem S_sliceL (es : Nat) (x : Opd) (lo hi mx : Option Opd) : stepC call ev H low (.sliceL es x lo hi mx) = step ev H low (.sliceL es x lo hi mx) := rfl
theorem S_lookup (k : Nat) (z : V) (x i : Opd) (ok : Bool) : stepC call ev H low (.lookup k z x i ok) = step ev H low (.lookup k z x i ok) := rfl
theorem S_mapUpd (k : Nat) (m x v : Opd) : stepC call ev H low (.mapUpd k m x v) = step ev H low (.mapUpd k m x v) := rfl
theorem S_minmax (m : Bool) (x y : Opd) : stepC call ev H low (.minmax m x y) = step ev H low (.minmax m x y) := rfl

/-- len, of a slice that is never written. -/
theorem S_len {x : Opd} (es : Nat) (h : slE es (ev x) = true) : stepC call ev H low (.len 1 x) = some (.int .i64 (el (ev x)).length, H, low) := by
  show step ev H low (.len 1 x) = _
  cases hx : ev x <;> simp_all [slE, step, el]
/-- len, of a row. -/
theorem S_len_row {x : Opd} {l es off len tag : Nat} (hx : ev x = .sref l es off len tag) {ds : List V} {fz : Bool} (hl : H[l]? = some (.row es ds fz)) (ht : ds.length = tag) : stepC call ev H low (.len 1 x) = some (.int .i64 len, H, low) := by
  show step ev H low (.len 1 x) = _
  simp [step, hx, hl, ht]
theorem S_index {es : Nat} {x i : Opd} (h : slE es (ev x) = true) : stepC call ev H low (.indexAddr es x i) = match natOf (ev i) with
    | some k => ((el (ev x))[k]?).map fun d => (.pin (cellsV d) 0, H, low)
    | none => none := by
  show step ev H low (.indexAddr es x i) = _
  cases hx : ev x <;> simp_all [slE, step, el] <;> cases natOf (ev i) <;> rfl
theorem S_index_row {x i : Opd} {l es len tag : Nat} (hx : ev x = .sref l es 0 len tag) {ds : List V} {fz : Bool} (hl : H[l]? = some (.row es ds fz)) (ht : ds.length = tag) {k : Nat} (hk : natOf (ev i) = some k) (hlt : k < len) (hle : len ≤ tag) :
    stepC call ev H low (.indexAddr es x i) = some (.eptr l es k 0 tag, H, low) := by
  show step ev H low (.indexAddr es x i) = _
  simp [step, hx, hl, ht, hk, hlt, hle]
end

@[simp] theorem natOf_cast (k : IntKind) (n : Nat) : natOf (.int k (n : Int)) = some n := by simp [natOf]
theorem natOf_nonneg (k : IntKind) {n : Int} (h : 0 ≤ n) : natOf (.int k n) = some n.toNat := by simp [natOf, h]

@[simp] theorem movedH_same (H : Heap) : movedH H H H.length = false := by simp [movedH]

theorem wrap_small {n : Int} (h1 : -9223372036854775808 ≤ n) (h2 : n < 9223372036854775808) : IntKind.i64.wrap n = n := by
  have e : (2 ^ IntKind.i64.bits : Int) = 18446744073709551616 := rfl
  have e' : (2 ^ (IntKind.i64.bits - 1) : Int) = 9223372036854775808 := rfl
  have s : IntKind.i64.signed = true := rfl
  simp only [IntKind.wrap, e, e', s, Bool.true_and, decide_eq_true_eq]
  split <;> omega

theorem lookE_setE (e : Env) (t t' : Nat) (v : V) : lookupE (setE e t v) t' = if t' = t then v else lookupE e t' := by
  induction e with
  | nil =>
    by_cases h : t' = t
    · subst h; simp [setE, lookupE]
    · simp [setE, lookupE, h, Ne.symm h]
  | cons p r ih =>
    obtain ⟨k, u⟩ := p
    simp only [setE]
    split
    · rename_i hk
      subst hk
      by_cases h : t' = k
      · subst h; simp [lookupE]
      · simp [lookupE, h, Ne.symm h]
    · rename_i hk
      simp only [lookupE]
      split
      · rename_i h
        rw [if_neg (by omega)]
      · exact ih

/-- The shape of 'for i := range n' and 'for i, x := range xs'. -/
def rangeBody (b n i t blk ex : Nat) (body : ACode) : ACode :=
  .seq (.region [⟨some (b, true), .bin .lss (.var i) (.var n), none⟩] none) (.seq (.cond (.var b) (.skip) (.exit ex)) (.seq (.block blk body)
    (.region [⟨some (t, false), .bin .add (.var i) (.const (.int .i64 1)), none⟩, ⟨some (i, true), .mv (.tmp t), none⟩] none)))

theorem range_loop {tab : Nat → Option Fun} {b n i t blk ex : Nat} {body : ACode} {I : Nat → St → Prop} {Q : X → St → Prop} {N : Nat} (hN : N < 4611686018427387904) (hbi : b ≠ i) (hex : ex ≠ blk)
    (hI : ∀ k st, I k st → lookupE st.vE i = .int .i64 k ∧ lookupE st.vE n = .int .i64 N ∧ st.low ≤ st.H.length)
    (round : ∀ k st, k < N → I k st → ∃ x st2, execL tab body { st with tE := [], vE := setE st.vE b (.bool true) } = some (x, st2) ∧
      if x = .normal ∨ x = .exit blk then lookupE st2.vE i = .int .i64 k ∧ st2.low ≤ st2.H.length ∧ I (k + 1) { st2 with tE := [], vE := setE st2.vE i (.int .i64 ((k + 1 : Nat) : Int)) } else Q x st2)
    (done : ∀ st, I N st → Q (.exit ex) { st with tE := [], vE := setE st.vE b (.bool false) }) :
    ∀ j k st, k + j = N → I k st → ∃ x st', execL tab (.loop (rangeBody b n i t blk ex body)) st = some (x, st') ∧ Q x st' := by
  have hlt : ∀ k st, I k st → execL tab (.region [⟨some (b, true), .bin .lss (.var i) (.var n), none⟩] none) st = some (.normal, { st with tE := [], vE := setE st.vE b (.bool (decide (k < N))) }) := fun k st h => by
    obtain ⟨h1, h2, h3⟩ := hI k st h
    rw [execL_region]
    simp [execOps, wantedA, S_bin, Opd.ev, h1, h2, binA, St.put, Nat.min_eq_left h3]
  intro j
  induction j with
  | zero =>
    intro k st hk h
    have : k = N := by omega
    subst this
    refine ⟨.exit ex, _, ?_, done st h⟩
    rw [execL_loop]
    simp only [rangeBody]
    rw [execL_seq, hlt k st h]
    simp only []
    rw [execL_seq, execL_cond]
    simp [Opd.ev, lookE_setE, execL_exit]
  | succ j ih =>
    intro k st hk h
    obtain ⟨x, st2, h1, h2⟩ := round k st (by omega) h
    have hpre : ∀ r, execL tab (.seq (.block blk body) (.region [⟨some (t, false), .bin .add (.var i) (.const (.int .i64 1)), none⟩, ⟨some (i, true), .mv (.tmp t), none⟩] none)) { st with tE := [], vE := setE st.vE b (.bool true) } = r →
        execL tab (rangeBody b n i t blk ex body) st = r := fun r hr => by
      simp only [rangeBody]
      rw [execL_seq, hlt k st h]
      simp only []
      rw [execL_seq, execL_cond]
      have hd : decide (k < N) = true := by simp; omega
      simp [Opd.ev, lookE_setE, execL_skip, hd, hr]
    by_cases hx : x = .normal ∨ x = .exit blk
    · rw [if_pos hx] at h2
      obtain ⟨h2, h4, h3⟩ := h2
      have hblk : execL tab (.block blk body) { st with tE := [], vE := setE st.vE b (.bool true) } = some (.normal, st2) := by
        rw [execL_block, h1]
        rcases hx with rfl | rfl
        · rfl
        · simp
      have hinc : execL tab (.region [⟨some (t, false), .bin .add (.var i) (.const (.int .i64 1)), none⟩, ⟨some (i, true), .mv (.tmp t), none⟩] none) st2 = some (.normal, { st2 with tE := [], vE := setE st2.vE i (.int .i64 ((k + 1 : Nat) : Int)) }) := by
        have hw : IntKind.i64.wrap ((k : Int) + 1) = ((k + 1 : Nat) : Int) := by rw [wrap_small] <;> omega
        rw [execL_region]
        simp [execOps, wantedA, S_bin, S_mv, Opd.ev, h2, binA, hw, St.put, lookupE, Nat.min_eq_left h4]
      have hround := hpre _ (by rw [execL_seq, hblk])
      simp only [hinc] at hround
      obtain ⟨x', st', h5, h6⟩ := ih (k + 1) _ (by omega) h3
      exact ⟨x', st', by rw [execL_loop, hround]; exact h5, h6⟩
    · rw [if_neg hx] at h2
      have hblk : execL tab (.block blk body) { st with tE := [], vE := setE st.vE b (.bool true) } = some (x, st2) := by
        rw [execL_block, h1]
        cases x with
        | normal => exact absurd (.inl rfl) hx
        | exit id =>
          have : id ≠ blk := fun e => hx (.inr (by rw [e]))
          simp [this]
        | ret => rfl
      have hround := hpre (some (x, st2)) (by
        rw [execL_seq, hblk]
        cases x with
        | normal => exact absurd (.inl rfl) hx
        | exit id => rfl
        | ret => rfl)
      refine ⟨x, st2, ?_, h2⟩
      rw [execL_loop, hround]
      cases x with
      | normal => exact absurd (.inl rfl) hx
      | exit id => rfl
      | ret => rfl

end Go.Abs
