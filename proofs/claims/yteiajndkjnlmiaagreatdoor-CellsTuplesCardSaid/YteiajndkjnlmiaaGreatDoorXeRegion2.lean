/- Regions, whole: in the order of the numbers, and in every order that the edges allow. -/
import Derived.Test.YteiajndkjnlmiaaGreatDoorXeRegion
set_option linter.unusedVariables false
set_option linter.unusedSimpArgs false
namespace Go.Abs
open Go
variable {C : Ctx} {fid : Nat → Nat} {w w' : World} {G G' : Gh} {H H' : Heap}

/-- The executor's state against the machine's. -/
structure RelSt (C : Ctx) (fid : Nat → Nat) (vars : List Nat) (N : Nat) (G : Gh) (st : St) (a : Act) (w : World) : Prop where
  rel : RelH C fid G st.H w
  env : ∀ t, VRel fid G w (lookS vars st t) (a.tmps.getD t undef)
  size : a.tmps.size = N
  low : st.low ≤ st.H.length

/-- A region's operations, one after the other. -/
structure Tr (C : Ctx) (vars : List Nat) (N : Nat) (ops : Array Oper) (aops : List AOper) (call : CallT) (S : Nat → St) (fl : Nat → Bool) : Prop where
  len : aops.length = ops.size
  ok : ∀ (i : Nat) o ao, ops[i]? = some o → aops[i]? = some ao → OperOk C vars N ops o ao
  step : ∀ (i : Nat) ao, aops[i]? = some ao → OpStep call ao (S i) (S (i + 1)) (fl i)

section
variable {vars : List Nat} {N : Nat} {ops : Array Oper} {aops : List AOper} {call : CallT} {S : Nat → St} {fl : Nat → Bool}

theorem Tr.get (h : Tr C vars N ops aops call S fl) {i : Nat} (hi : i < ops.size) : ∃ o ao, ops[i]? = some o ∧ aops[i]? = some ao ∧ OperOk C vars N ops o ao ∧ OpStep call ao (S i) (S (i + 1)) (fl i) := by
  have h1 : ops[i]? = some ops[i] := by simp [hi]
  have h2 : aops[i]? = some (aops[i]'(by rw [h.len]; exact hi)) := by simp
  exact ⟨_, _, h1, h2, h.ok i _ _ h1 h2, h.step i _ h2⟩

theorem Tr.of (hm : mapO (C.oper vars N ops) ops.toList = some aops) (hs : ∀ (i : Nat) ao, aops[i]? = some ao → OpStep call ao (S i) (S (i + 1)) (fl i)) : Tr C vars N ops aops call S fl :=
  ⟨by rw [mapO_length _ hm]; simp, fun i o ao h1 h2 => oper_ok (mapO_get _ hm (by rw [Array.getElem?_toList]; exact h1) h2), hs⟩

theorem Tr.fr (h : Tr C vars N ops aops call S fl) (hc : CallFr call) {i : Nat} : ∀ {k : Nat}, i + k ≤ ops.size → FrS (S i) (S (i + k))
  | 0, _ => .refl _
  | k + 1, hk => by
    obtain ⟨o, ao, -, -, -, hs⟩ := h.get (i := i + k) (by omega)
    exact (h.fr hc (k := k) (by omega)).trans (hs.fr hc)

theorem Tr.fr' (h : Tr C vars N ops aops call S fl) (hc : CallFr call) {i j : Nat} (hij : i ≤ j) (hj : j ≤ ops.size) : FrS (S i) (S j) := by
  obtain ⟨k, rfl⟩ := Nat.exists_eq_add_of_le hij
  exact h.fr hc hj

/-- No operation between them changed the heap. -/
theorem Tr.heap (h : Tr C vars N ops aops call S fl) (hc : CallFr call) {i : Nat} : ∀ {k : Nat}, i + k ≤ ops.size → (∀ x, i ≤ x → x < i + k → fl x = false) → (S (i + k)).H = (S i).H
  | 0, _, _ => rfl
  | k + 1, hk, hf => by
    obtain ⟨o, ao, -, -, -, hs⟩ := h.get (i := i + k) (by omega)
    have := hs.still hc (hf (i + k) (by omega) (by omega))
    exact this.trans (h.heap hc (k := k) (by omega) fun x h1 h2 => hf x h1 (by omega))

/-- No operation between them wrote the slot. -/
theorem Tr.slot (h : Tr C vars N ops aops call S fl) {t : Nat} {i : Nat} : ∀ {k : Nat}, i + k ≤ ops.size → (∀ (x : Nat) o, i ≤ x → x < i + k → ops[x]? = some o → o.dst ≠ some t) → lookS vars (S (i + k)) t = lookS vars (S i) t
  | 0, _, _ => rfl
  | k + 1, hk, hf => by
    obtain ⟨o, ao, ho, -, hok, hs⟩ := h.get (i := i + k) (by omega)
    have := hs.look (t := t) hok (hf (i + k) o (by omega) (by omega) ho)
    exact this.trans (h.slot (k := k) (by omega) fun x o h1 h2 => hf x o h1 (by omega))

theorem lookS_clear (vars : List Nat) (st : St) (t : Nat) : lookS vars { st with tE := [] } t = lookS vars st t ∨ lookS vars { st with tE := [] } t = .undef := by
  unfold lookS
  split
  · exact .inl rfl
  · exact .inr rfl

theorem RelSt.clear {st : St} {a : Act} (h : RelSt C fid vars N G st a w) : RelSt C fid vars N G { st with tE := [] } a w :=
  ⟨h.rel, fun t => by rcases lookS_clear vars st t with e | e <;> rw [e]; exact h.env t; exact .undef _, h.size, h.low⟩

theorem RelSt.sameHeap {st : St} {a : Act} (h : RelSt C fid vars N G st a w) (e : w'.heap = w.heap) : RelSt C fid vars N G st a w' :=
  ⟨h.rel.sameHeap e, fun t => (h.env t).mono (.refl _) fun b hb => ⟨hb, by rw [e]⟩, h.size, h.low⟩

/-- The new state of the slots. -/
theorem env_put {o : Oper} {a : Act} {x : Value} {t : Nat} {G2 : Gh} {w2 : World} (hd : ∀ d, o.dst = some d → d < a.tmps.size) {v : V} (h1 : o.dst = some t → VRel fid G2 w2 v x)
    (h2 : o.dst ≠ some t → VRel fid G2 w2 v (a.tmps.getD t undef)) : VRel fid G2 w2 v ((a.put o.dst x).tmps.getD t undef) := by
  cases hdst : o.dst with
  | none => simp only [Act.put]; exact h2 (by rw [hdst]; simp)
  | some d =>
    rw [getD_put _ _ _ _ (hd d hdst)]
    by_cases e : t = d
    · subst e; rw [if_pos rfl]; exact h1 hdst
    · rw [if_neg e]; exact h2 (by rw [hdst]; simpa using Ne.symm e)

theorem OperOk.lt {o : Oper} {ao : AOper} (h : OperOk C vars N ops o ao) : ∀ d, o.dst = some d → d < N := fun d hd => by
  rcases h.dst with ⟨h1, -⟩ | ⟨d', h0, h1, -⟩
  · rw [h1] at hd; cases hd
  · rw [h1] at hd; cases hd; exact h0

theorem region_seq {id : Nat} {st st' : St} {wr : List Bool} {a : Act} {Q : Exit → Act → World → Prop} {ro : Option Nat} (hC : CtxOk C fid) (hcall : CallOk C fid call) (hm : mapO (C.oper vars N ops) ops.toList = some aops)
    (he : execOps call aops { st with tE := [] } [] = some (st', wr)) (hR : RelSt C fid vars N G st a w)
    (hQ : ∀ G' a' w', RelSt C fid vars N G' st' a' w' → (∀ m, m ≤ st'.low → Ext G w G' w' m st.H.length) → a'.defers = a.defers → Q .normal a' w') :
    (Code.region id ops false).wpIn (FW ro) 0 C.P Q a w := by
  obtain ⟨S, fl, h0, hn, -, hs⟩ := execOps_trace _ _ _ _ _ he
  have T : Tr C vars N ops aops call S fl := .of hm hs
  have key : ∀ k j, j + k = ops.size → ∀ G1 a1 w1, RelSt C fid vars N G1 (S j) a1 w1 → (∀ m, m ≤ (S j).low → Ext G w G1 w1 m st.H.length) → a1.defers = a.defers → st.H.length ≤ (S j).H.length →
      wpOpsIn (FW ro) 0 C.P ops Q (List.range' j k) a1 w1 := by
    intro k
    induction k with
    | zero =>
      intro j hj G1 a1 w1 r1 r2 r3 _
      have e : j = aops.length := by rw [T.len]; omega
      subst e
      rw [hn] at r1 r2
      exact hQ G1 a1 w1 r1 r2 r3
    | succ k ih =>
      intro j hj G1 a1 w1 r1 r2 r3 r4
      obtain ⟨o, ao, ho, hao, hok, hst⟩ := T.get (i := j) (by omega)
      rw [List.range'_succ, wpOpsIn_cons]
      have hfr := hst.fr hcall.fr
      refine op_wp (T := fun _ => True) hC hcall ho hok hst r1.rel (fun _ => rfl) r1.low (fun t _ => r1.env t) (fun x _ => by cases x <;> trivial) (fun _ _ _ _ _ => trivial) r1.size ?_
      intro x w2 G2 p1 p2 p3
      have p1' : RelH C fid G2 (S (j + 1)).H w2 := by
        cases hf : fl j with
        | true => rw [hf] at p1; exact p1
        | false => rw [hf] at p1; rw [hst.still hcall.fr hf]; exact p1
      have hx0 := p2 0 (Nat.zero_le _)
      refine ih (j + 1) (by omega) G2 _ w2 ⟨p1', fun t => ?_, by rw [put_size]; exact r1.size, hfr.bound r1.low⟩ (fun m hm => (r2 m (Nat.le_trans hm hfr.1.low)).trans ((p2 m hm).le (Nat.le_refl _) r4)) (by rw [put_defers]; exact r3)
        (Nat.le_trans r4 hfr.1.len)
      refine env_put (fun d hd => by rw [r1.size]; exact hok.lt d hd) (fun h => p3 t h) (fun h => ?_)
      rw [hst.look hok h]
      exact (r1.env t).ext r1.rel hx0
  refine wpIn_region ?_
  rw [List.range_eq_range']
  have hR0 := hR.clear
  rw [← h0] at hR0
  exact key ops.size 0 (by omega) G a w hR0 (fun m _ => .refl _ _ _ _) rfl (by rw [h0]; exact Nat.le_refl _)

/-! ### every order -/

theorem before_fold : ∀ (l : List Oper) (A : Array Nat), let B := l.foldl (fun acc o => acc.push (CheckFast.one (fun i => acc.getD i 0) o)) A
    B.size = A.size + l.length ∧ (∀ i, i < A.size → B.getD i 0 = A.getD i 0) ∧ ∀ k o, l[k]? = some o → B.getD (A.size + k) 0 = CheckFast.one (fun i => if i < A.size + k then B.getD i 0 else 0) o
  | [], A => ⟨by simp, fun _ _ => rfl, fun k o h => by simp at h⟩
  | o :: l, A => by
    intro B
    obtain ⟨h1, h2, h3⟩ := before_fold l (A.push (CheckFast.one (fun i => A.getD i 0) o))
    have hB : B = l.foldl (fun acc o => acc.push (CheckFast.one (fun i => acc.getD i 0) o)) (A.push (CheckFast.one (fun i => A.getD i 0) o)) := rfl
    rw [← hB] at h1 h2 h3
    simp only [Array.size_push] at h1 h2 h3
    have hA : ∀ i, i < A.size → B.getD i 0 = A.getD i 0 := fun i hi => by
      rw [h2 i (by omega)]
      simp only [Array.getD_eq_getD_getElem?, Array.getElem?_push, if_neg (Nat.ne_of_lt hi)]
    refine ⟨by simp only [List.length_cons]; omega, hA, fun k p hk => ?_⟩
    cases k with
    | zero =>
      simp only [List.getElem?_cons_zero, Option.some.injEq] at hk
      subst hk
      rw [Nat.add_zero, h2 A.size (by omega)]
      simp only [Array.getD_eq_getD_getElem?, Array.getElem?_push, if_pos, Option.getD_some]
      congr 1
      funext i
      by_cases hi : i < A.size
      · rw [if_pos hi]
        have := hA i hi
        simp only [Array.getD_eq_getD_getElem?] at this
        exact this.symm
      · rw [if_neg hi]; simp [Array.getElem?_eq_none (Nat.le_of_not_lt hi)]
    | succ k =>
      have := h3 k p (by simpa using hk)
      rw [Nat.add_right_comm] at this
      rw [← Nat.add_assoc]
      exact this

theorem one_bits {look : Nat → Nat} {o : Oper} {i : Nat} (h : (CheckFast.one look o).testBit i = true) : ∃ e ∈ o.after, Region.binds .any e = true ∧ (i = e.on ∨ (look e.on).testBit i = true) := by
  unfold CheckFast.one at h
  rw [← Array.foldl_toList] at h
  have key : ∀ (l : List Edge) (s : Nat), (l.foldl (fun s e => if Region.binds .any e then s ||| 2 ^ e.on ||| look e.on else s) s).testBit i = true → s.testBit i = true ∨ ∃ e ∈ l, Region.binds .any e = true ∧ (i = e.on ∨ (look e.on).testBit i = true) := by
    intro l
    induction l with
    | nil => exact fun s h => .inl h
    | cons e l ih =>
      intro s h
      rw [List.foldl_cons] at h
      rcases ih _ h with h1 | ⟨e', he', h2⟩
      · split at h1
        · rename_i hb
          rw [Nat.testBit_or, Nat.testBit_or, Nat.testBit_two_pow] at h1
          simp only [Bool.or_eq_true, decide_eq_true_eq] at h1
          rcases h1 with (h1 | h1) | h1
          · exact .inl h1
          · exact .inr ⟨e, by simp, hb, .inl h1.symm⟩
          · exact .inr ⟨e, by simp, hb, .inr h1⟩
        · exact .inl h1
      · exact .inr ⟨e', by simp [he'], h2⟩
  rcases key _ _ h with h1 | ⟨e, he, h2⟩
  · simp at h1
  · exact ⟨e, Array.mem_toList_iff.1 he, h2⟩

theorem before_bits {ops : Array Oper} {j i : Nat} {o : Oper} (ho : ops[j]? = some o) (h : ((CheckFast.beforeF ops).getD j 0).testBit i = true) :
    ∃ e ∈ o.after, Region.binds .any e = true ∧ (i = e.on ∨ ((CheckFast.beforeF ops).getD e.on 0).testBit i = true) := by
  rw [CheckFast.beforeF_eq] at h ⊢
  have hb := before_fold ops.toList #[]
  have e : Region.before ops = ops.toList.foldl (fun acc o => acc.push (CheckFast.one (fun i => acc.getD i 0) o)) #[] := by
    unfold Region.before; rw [← Array.foldl_toList]; rfl
  rw [← e] at hb
  have h3 := hb.2.2 j o (by rw [Array.getElem?_toList]; exact ho)
  rw [List.size_toArray, List.length_nil, Nat.zero_add] at h3
  rw [h3] at h
  obtain ⟨x, hx, hbi, h4⟩ := one_bits h
  refine ⟨x, hx, hbi, h4.imp id fun h5 => ?_⟩
  split at h5
  · exact h5
  · simp at h5

theorem before_none {ops : Array Oper} {j i : Nat} (hj : ops.size ≤ j) : ((CheckFast.beforeF ops).getD j 0).testBit i = false := by
  rw [CheckFast.beforeF_eq]
  have hb := before_fold ops.toList #[]
  have e : Region.before ops = ops.toList.foldl (fun acc o => acc.push (CheckFast.one (fun i => acc.getD i 0) o)) #[] := by
    unfold Region.before; rw [← Array.foldl_toList]; rfl
  rw [← e] at hb
  have := hb.1
  simp only [List.size_toArray, List.length_nil, Nat.zero_add, Array.length_toList] at this
  simp [Array.getElem?_eq_none (Nat.le_trans (Nat.le_of_eq this) hj)]

theorem apart_bits (h : Ctx.apartOk ops = true) {i j : Nat} {o p : Oper} (ho : ops[j]? = some o) (hp : ops[i]? = some p) {d : Nat} (hd : p.dst = some d) (hij : i ≠ j) (hn : o.dst = some d ∨ d ∈ Ctx.slots ops o) :
    ((CheckFast.beforeF ops).getD (max i j) 0).testBit (min i j) = true := by
  unfold Ctx.apartOk at h
  simp only [List.all_eq_true] at h
  have h1 := h (o, j) (List.mem_zipIdx_iff_getElem?.2 (by rw [Array.getElem?_toList]; exact ho)) (p, i) (List.mem_zipIdx_iff_getElem?.2 (by rw [Array.getElem?_toList]; exact hp))
  simp only [hd] at h1
  simp only [Bool.or_eq_true, beq_iff_eq, Bool.not_eq_true', Bool.or_eq_false_iff, beq_eq_false_iff_ne, List.contains_eq_mem, decide_eq_false_iff_not] at h1
  rcases h1 with (h1 | ⟨h1, h2⟩) | h1
  · exact absurd h1 hij
  · rcases hn with hn | hn
    · exact absurd hn h1
    · exact absurd hn h2
  · exact h1

theorem plain_edges (h : Ctx.plainEdges ops = true) {j : Nat} {o : Oper} (ho : ops[j]? = some o) {e : Edge} (he : e ∈ o.after) (hb : Region.binds .any e = true) : e.on < j := by
  unfold Ctx.plainEdges at h
  simp only [List.all_eq_true] at h
  have h1 := h (o, j) (List.mem_zipIdx_iff_getElem?.2 (by rw [Array.getElem?_toList]; exact ho))
  simp only [Array.all_eq_true_iff_forall_mem] at h1
  have h2 := h1 e he
  unfold Region.binds at hb
  cases hg : e.ground <;> simp_all

theorem count_lt {l : List Nat} {p q : Nat → Bool} (hpq : ∀ x ∈ l, p x = true → q x = true) {a : Nat} (ha : a ∈ l) (hq : q a = true) (hp : p a = false) : l.countP p < l.countP q := by
  induction l with
  | nil => cases ha
  | cons x l ih =>
    have hle : l.countP p ≤ l.countP q := List.countP_mono_left fun y hy => hpq y (by simp [hy])
    rw [List.countP_cons, List.countP_cons]
    rcases List.mem_cons.1 ha with rfl | ha'
    · rw [hp, hq]; simp; omega
    · have := ih (fun y hy => hpq y (by simp [hy])) ha'
      have h2 := hpq x (by simp)
      cases hx : p x
      · simp only [Bool.false_eq_true, if_false]; split <;> omega
      · rw [h2 hx]; simp; omega

end
end Go.Abs
