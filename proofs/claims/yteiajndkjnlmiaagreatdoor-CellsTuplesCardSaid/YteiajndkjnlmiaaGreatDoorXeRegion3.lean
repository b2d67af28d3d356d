/- A region in every order that its edges allow. -/
import Derived.Test.YteiajndkjnlmiaaGreatDoorXeRegion2
set_option linter.unusedVariables false
set_option linter.unusedSimpArgs false
namespace Go.Abs
open Go
variable {C : Ctx} {fid : Nat → Nat} {w w' : World} {G G' : Gh} {H H' : Heap}
variable {vars : List Nat} {N : Nat} {ops : Array Oper} {aops : List AOper} {call : CallT} {S : Nat → St} {fl : Nat → Bool}

/-- What has been done, and what holds then. -/
structure Inv (C : Ctx) (fid : Nat → Nat) (vars : List Nat) (N : Nat) (ops : Array Oper) (S : Nat → St) (fl : Nat → Bool) (G : Gh) (w : World) (a : Act) (n0 : Nat)
    (L : Array Bool) (k : Nat) (G1 : Gh) (a1 : Act) (w1 : World) : Prop where
  size : L.size = ops.size
  closed : ∀ x, L.getD x false = true → ∀ i, ((CheckFast.beforeF ops).getD x 0).testBit i = true → L.getD i false = true
  kle : k ≤ ops.size
  kfl : ∀ i, i < ops.size → fl i = true → (L.getD i false = true ↔ i < k)
  rel : RelH C fid G1 (S k).H w1
  env : ∀ t m, m ≤ ops.size → (∀ (i : Nat) o, ops[i]? = some o → o.dst = some t → (L.getD i false = true ↔ i < m)) → VRel fid G1 w1 (lookS vars (S m) t) (a1.tmps.getD t undef)
  tsz : a1.tmps.size = N
  defers : a1.defers = a.defers
  ext : ∀ m, m ≤ (S ops.size).low → Ext G w G1 w1 m n0

theorem getD_set' {L : Array Bool} {i j : Nat} (hj : j < L.size) : (L.setIfInBounds j true).getD i false = true ↔ i = j ∨ L.getD i false = true := by
  by_cases h : i = j
  · subst h; simp [Array.getD, hj]
  · rw [getD_set_ne false (Ne.symm h)]; simp [h]

theorem inOrder_bits {bef : List Nat} {wr : List Bool} (h : inOrder bef aops wr = true) {i j : Nat} {ao : AOper} (hi : wr[i]? = some true) (hj : aops[j]? = some ao) (ht : touches ao.op = true) (hij : i ≠ j) :
    if j < i then (bef.getD i 0).testBit j = true else (bef.getD j 0).testBit i = true := by
  unfold inOrder at h
  rw [if_pos (List.any_eq_true.2 ⟨true, List.mem_of_getElem? hi, rfl⟩)] at h
  simp only [List.all_eq_true] at h
  have h1 := h (true, i) (List.mem_zipIdx_iff_getElem?.2 hi)
  simp only [Bool.not_true, Bool.false_or, List.all_eq_true] at h1
  have h2 := h1 (ao, j) (List.mem_zipIdx_iff_getElem?.2 hj)
  simp only [ht, Bool.not_true, Bool.false_or, Bool.or_eq_true, beq_iff_eq, hij, false_or] at h2
  split at h2
  · rename_i hlt; rw [if_pos hlt]; exact h2
  · rename_i hlt; rw [if_neg hlt]; exact h2

theorem region_any {id : Nat} {st st' : St} {wr : List Bool} {a : Act} {Q : Exit → Act → World → Prop} {ro : Option Nat} (hmix : C.P.follows .mixedOrders = true) (hC : CtxOk C fid) (hcall : CallOk C fid call)
    (hm : mapO (C.oper vars N ops) ops.toList = some aops) (hpl : Ctx.plainEdges ops = true) (hap : Ctx.apartOk ops = true) (hsee : (ops.toList.zip aops).all (fun (o, a) => Ctx.seesOk ops o a) = true)
    (he : execOps call aops { st with tE := [] } [] = some (st', wr)) (hin : inOrder (CheckFast.beforeF ops).toList aops wr = true) (hR : RelSt C fid vars N G st a w)
    (hQ : ∀ G' a' w', RelSt C fid vars N G' st' a' w' → (∀ m, m ≤ st'.low → Ext G w G' w' m st.H.length) → a'.defers = a.defers → Q .normal a' w') :
    (Code.region id ops true).wpIn (FW ro) 0 C.P Q a w := by
  obtain ⟨S, fl, h0, hn, hwr, hs⟩ := execOps_trace _ _ _ _ _ he
  have T : Tr C vars N ops aops call S fl := .of hm hs
  rw [T.len] at hn hwr
  simp only [List.reverse_nil, List.nil_append] at hwr
  have hbl : ∀ i, (CheckFast.beforeF ops).toList.getD i 0 = (CheckFast.beforeF ops).getD i 0 := fun i => by
    rw [List.getD_eq_getElem?_getD, Array.getElem?_toList, Array.getD_eq_getD_getElem?]
  have hflag : ∀ i, i < ops.size → fl i = true → ∀ (j : Nat) ao, aops[j]? = some ao → touches ao.op = true → i ≠ j → ((CheckFast.beforeF ops).getD (max i j) 0).testBit (min i j) = true := by
    intro i hi hf j ao hj ht hij
    have := inOrder_bits hin (i := i) (by rw [hwr]; simp [hi, hf]) hj ht hij
    rw [hbl, hbl] at this
    split at this
    · rw [Nat.max_eq_left (by omega), Nat.min_eq_right (by omega)]; exact this
    · rw [Nat.max_eq_right (by omega), Nat.min_eq_left (by omega)]; exact this
  have hS0 : st.H = (S 0).H ∧ st.low = (S 0).low := by rw [h0]; exact ⟨rfl, rfl⟩
  have hlow0 : st.low ≤ st.H.length := hR.low
  -- the end
  have hend : ∀ L k G1 a1 w1, Inv C fid vars N ops S fl G w a st.H.length L k G1 a1 w1 → (∀ i, i < ops.size → L.getD i false = true) → Q .normal a1 w1 := by
    intro L k G1 a1 w1 I hall
    have hk : (S ops.size).H = (S k).H := by
      obtain ⟨d, hd⟩ := Nat.exists_eq_add_of_le I.kle
      rw [hd]
      refine T.heap hcall.fr (by omega) fun x h1 h2 => ?_
      cases hf : fl x with
      | false => rfl
      | true => have := (I.kfl x (by omega) hf).1 (hall x (by omega)); omega
    refine hQ G1 a1 w1 ?_ (fun m hm => I.ext m (by rw [hn]; exact hm)) I.defers
    rw [← hn]
    refine ⟨by rw [hk]; exact I.rel, fun t => I.env t ops.size (Nat.le_refl _) fun i o ho _ => ?_, I.tsz, ?_⟩
    · have : i < ops.size := (Array.getElem?_eq_some_iff.1 ho).1
      simp [this, hall i this]
    · exact (T.fr' hcall.fr (Nat.zero_le _) (Nat.le_refl _)).bound (by rw [← hS0.1, ← hS0.2]; exact hlow0)
  have hdone : ∀ L k G1 a1 w1, Inv C fid vars N ops S fl G w a st.H.length L k G1 a1 w1 → Region.ready .any ops L = [] → ∀ i, i < ops.size → L.getD i false = true := by
    intro L k G1 a1 w1 I hr i
    induction i using Nat.strongRecOn with
    | _ i ih =>
      intro hi
      cases hL : L.getD i false with
      | true => rfl
      | false =>
        exfalso
        have : i ∈ Region.ready .any ops L := mem_ready.2 ⟨by
          have : i < L.size := by rw [I.size]; exact hi
          simp only [Array.getD, this, dif_pos] at hL ⊢; exact hL, ops[i], by simp [hi], fun e he hb => by
            have hlt := plain_edges hpl (j := i) (o := ops[i]) (by simp [hi]) he hb
            exact ih e.on hlt (by omega)⟩
        rw [hr] at this; cases this
  -- one operation
  have hone : ∀ (fuel : Nat) (L : Array Bool) (k : Nat) (G1 : Gh) (a1 : Act) (w1 : World) (j : Nat), Inv C fid vars N ops S fl G w a st.H.length L k G1 a1 w1 → j ∈ Region.ready .any ops L →
      (∀ L' k' G' a' w', Inv C fid vars N ops S fl G w a st.H.length L' k' G' a' w' → L' = L.setIfInBounds j true → wpAnyIn (FW ro) 0 C.P .any ops Q fuel L' a' w') →
      wpOpIn (FW ro) 0 C.P ops Q j (wpAnyIn (FW ro) 0 C.P .any ops Q fuel (L.setIfInBounds j true)) a1 w1 := by
    intro fuel L k G1 a1 w1 j I hj hnext
    obtain ⟨hun0, o, ho, hedge⟩ := mem_ready.1 hj
    have hjn : j < ops.size := (Array.getElem?_eq_some_iff.1 ho).1
    have hjL : j < L.size := by rw [I.size]; exact hjn
    have hun : L.getD j false = false := by simp only [Array.getD, hjL, dif_pos] at hun0 ⊢; exact hun0
    obtain ⟨o', ao, ho', hao, hok, hst⟩ := T.get hjn
    rw [ho] at ho'; cases ho'
    have hbj : ∀ i, ((CheckFast.beforeF ops).getD j 0).testBit i = true → L.getD i false = true := fun i hb => by
      obtain ⟨e, he1, he2, he3⟩ := before_bits ho hb
      have hl := hedge e he1 he2
      rcases he3 with rfl | he3
      · exact hl
      · exact I.closed e.on hl i he3
    -- who stands in order with j
    have hord : ∀ i, i ≠ j → ((CheckFast.beforeF ops).getD (max i j) 0).testBit (min i j) = true → (L.getD i false = true ↔ i < j) := by
      intro i hij hb
      rcases Nat.lt_or_ge i j with hlt | hge
      · rw [Nat.max_eq_right (by omega), Nat.min_eq_left (by omega)] at hb
        exact ⟨fun _ => hlt, fun _ => hbj i hb⟩
      · rw [Nat.max_eq_left hge, Nat.min_eq_right hge] at hb
        refine ⟨fun hL => ?_, fun h => by omega⟩
        have := I.closed i hL j hb
        rw [hun] at this; cases this
    have hordfl : touches ao.op = true → ∀ i, i < ops.size → fl i = true → i ≠ j → (L.getD i false = true ↔ i < j) := fun ht i hi hf hij => hord i hij (hflag i hi hf j ao hao ht hij)
    have hordw : ∀ t, (o.dst = some t ∨ t ∈ Ctx.slots ops o) → ∀ (i : Nat) p, ops[i]? = some p → p.dst = some t → i ≠ j → (L.getD i false = true ↔ i < j) := fun t ht i p hp hd hij =>
      hord i hij (apart_bits hap ho hp hd hij ht)
    have hheap : touches ao.op = true → (S k).H = (S j).H := by
      intro ht
      have hk := I.kle
      rcases Nat.le_total k j with hkj | hjk
      · obtain ⟨d, rfl⟩ := Nat.exists_eq_add_of_le hkj
        refine (T.heap hcall.fr (by omega) fun x h1 h2 => ?_).symm
        cases hf : fl x with
        | false => rfl
        | true =>
          have a1 := (hordfl ht x (by omega) hf (by omega)).2 (by omega)
          have a2 := (I.kfl x (by omega) hf).1 a1
          omega
      · obtain ⟨d, rfl⟩ := Nat.exists_eq_add_of_le hjk
        refine T.heap hcall.fr (by omega) fun x h1 h2 => ?_
        cases hf : fl x with
        | false => rfl
        | true =>
          have a2 := (I.kfl x (by omega) hf).2 (by omega)
          by_cases hx : x = j
          · subst hx; rw [hun] at a2; cases a2
          · have := (hordfl ht x (by omega) hf hx).1 a2; omega
    have hfr := hst.fr hcall.fr
    have hlowj : (S j).low ≤ (S k).H.length := by
      have e1 := (T.fr' hcall.fr (i := 0) (j := j) (Nat.zero_le _) (by omega)).1.low
      have e2 := (T.fr' hcall.fr (i := 0) (j := k) (Nat.zero_le _) I.kle).1.len
      rw [← hS0.2] at e1; rw [← hS0.1] at e2
      omega
    have hseen : ∀ x ∈ ao.op.operands, seenO (fun t => t ∈ Ctx.slots ops o) x := by
      intro x hx
      have h1 : (o, ao) ∈ ops.toList.zip aops := List.mem_iff_getElem?.2 ⟨j, by rw [List.getElem?_zip_eq_some]; exact ⟨by rw [Array.getElem?_toList]; exact ho, hao⟩⟩
      have h2 := List.all_eq_true.1 hsee _ h1
      simp only [Ctx.seesOk, List.all_eq_true] at h2
      have h3 := h2 x hx
      cases x with
      | tmp t => exact List.contains_iff_mem.1 h3
      | var t => exact List.contains_iff_mem.1 h3
      | const v => trivial
      | func i => trivial
    refine op_wp (T := fun t => t ∈ Ctx.slots ops o) hC hcall ho hok hst I.rel hheap hlowj (fun t ht => ?_) hseen (fun q want d hg hd => ?_) I.tsz ?_
    · refine I.env t j (by omega) fun i p hp hd => ?_
      by_cases hij : i = j
      · subst hij; simp [hun]
      · exact hordw t (.inr ht) i p hp hd hij
    · simp only [Ctx.slots, List.mem_append]
      right
      rw [hg]
      simp only []
      rw [hd]; simp
    · intro x w2 G2 p1 p2 p3
      have hx0 := p2 0 (Nat.zero_le _)
      have hL' : ∀ i, (L.setIfInBounds j true).getD i false = true ↔ i = j ∨ L.getD i false = true := fun i => getD_set' hjL
      refine hnext _ (if fl j then j + 1 else k) G2 _ w2 ⟨by simp [I.size], fun x hx i hb => ?_, ?_, fun i hi hf => ?_, ?_, fun t m hm hcond => ?_, by rw [put_size]; exact I.tsz, by rw [put_defers]; exact I.defers, fun m hm => ?_⟩ rfl
      · rw [hL'] at hx ⊢
        rcases hx with rfl | hx
        · exact .inr (hbj i hb)
        · exact .inr (I.closed x hx i hb)
      · split
        · omega
        · exact I.kle
      · rw [hL']
        by_cases hij : i = j
        · subst hij; simp [hf]
        · cases hfj : fl j with
          | true =>
            have := hordfl (hst.touches hfj) i hi hf hij
            simp only [hij, false_or, if_true]
            rw [this]; omega
          | false => simp only [hij, false_or, Bool.false_eq_true, if_false]; exact I.kfl i hi hf
      · cases hfj : fl j with
        | true => rw [hfj] at p1; exact p1
        | false => rw [hfj] at p1; exact p1
      · refine env_put (fun d hd => by rw [I.tsz]; exact hok.lt d hd) (fun h => ?_) (fun h => ?_)
        · have hjm : j < m := (hcond j o ho h).1 ((hL' j).2 (.inl rfl))
          have e : lookS vars (S m) t = lookS vars (S (j + 1)) t := by
            obtain ⟨d, rfl⟩ := Nat.exists_eq_add_of_le (show j + 1 ≤ m from hjm)
            refine T.slot (by omega) fun x p h1 h2 hp hd => ?_
            have hxj : x ≠ j := by omega
            have a1 := (hL' x).1 ((hcond x p hp hd).2 h2)
            have a2 := (hordw t (.inl h) x p hp hd hxj).1 (a1.resolve_left hxj)
            omega
          rw [e]; exact p3 t h
        · refine (I.env t m hm fun i p hp hd => ?_).ext I.rel hx0
          have hij : i ≠ j := fun e => by subst e; rw [ho] at hp; cases hp; exact h hd
          rw [← hcond i p hp hd, hL']
          simp [hij]
      · have e1 := (T.fr' hcall.fr (i := j + 1) (j := ops.size) hjn (Nat.le_refl _)).1.low
        have e2 := (T.fr' hcall.fr (i := 0) (j := k) (Nat.zero_le _) I.kle).1.len
        rw [← hS0.1] at e2
        exact (I.ext m hm).trans ((p2 m (by omega)).le (Nat.le_refl _) e2)
  have key : ∀ (fuel : Nat) (L : Array Bool) (k : Nat) (G1 : Gh) (a1 : Act) (w1 : World), Inv C fid vars N ops S fl G w a st.H.length L k G1 a1 w1 → (List.range ops.size).countP (fun i => !L.getD i false) ≤ fuel →
      wpAnyIn (FW ro) 0 C.P .any ops Q fuel L a1 w1 := by
    intro fuel
    induction fuel with
    | zero =>
      intro L k G1 a1 w1 I hc
      have hall : ∀ i, i < ops.size → L.getD i false = true := fun i hi => by
        have h1 := List.countP_eq_zero.1 (Nat.le_zero.1 hc) i (by simpa using hi)
        simpa using h1
      refine ⟨?_, hend _ _ _ _ _ I hall⟩
      cases hr : Region.ready .any ops L with
      | nil => rfl
      | cons i r =>
        obtain ⟨h1, o, ho, -⟩ := mem_ready.1 (show i ∈ Region.ready .any ops L by rw [hr]; simp)
        have hi : i < ops.size := (Array.getElem?_eq_some_iff.1 ho).1
        have h2 := hall i hi
        have : i < L.size := by rw [I.size]; exact hi
        simp only [Array.getD, this, dif_pos] at h1 h2
        rw [h1] at h2; cases h2
    | succ fuel ih =>
      intro L k G1 a1 w1 I hc
      refine ⟨fun hr => hend _ _ _ _ _ I (hdone _ _ _ _ _ I hr), fun j hj => hone fuel L k G1 a1 w1 j I hj fun L' k' G' a' w' I' e => ih L' k' G' a' w' I' ?_⟩
      subst e
      obtain ⟨h1, o, ho, -⟩ := mem_ready.1 hj
      have hjn : j < ops.size := (Array.getElem?_eq_some_iff.1 ho).1
      have hjL : j < L.size := by rw [I.size]; exact hjn
      have hlt : (List.range ops.size).countP (fun i => !(L.setIfInBounds j true).getD i false) < (List.range ops.size).countP (fun i => !L.getD i false) := by
        refine count_lt (a := j) (fun x _ hx => ?_) (by simpa using hjn) ?_ ?_
        · cases hv : L.getD x false with
          | false => rfl
          | true =>
            have := (getD_set' (i := x) hjL).2 (.inr hv)
            rw [this] at hx; cases hx
        · simp only [Array.getD, hjL, dif_pos] at h1 ⊢; rw [h1]; rfl
        · have := (getD_set' (i := j) hjL).2 (.inl rfl)
          rw [this]; rfl
      omega
  refine wpIn_region_any hmix ?_
  have hw : ({ w with drawn := w.drawn + 1 } : World).heap = w.heap := rfl
  have hR0 := (hR.clear).sameHeap hw
  rw [← h0] at hR0
  have hf0 : ∀ i, (Array.replicate ops.size false).getD i false = false := fun i => by
    by_cases h : i < ops.size
    · simp [h]
    · simp [h]
  refine key ops.size (Array.replicate ops.size false) 0 G a { w with drawn := w.drawn + 1 } ⟨by simp, fun x hx => absurd hx (by rw [hf0]; simp), Nat.zero_le _, fun i hi hf => by rw [hf0]; simp, hR0.rel, fun t m hm hcond => ?_, hR0.size, rfl, fun m _ => Ext.sameHeap hw rfl rfl rfl m _⟩ ?_
  · have e : lookS vars (S m) t = lookS vars (S 0) t := by
      have := T.slot (t := t) (i := 0) (k := m) (by omega) fun x p h1 h2 hp hd => by
        have := (hcond x p hp hd).2 (by omega)
        rw [hf0] at this; cases this
      rw [Nat.zero_add] at this; exact this
    rw [e]; exact hR0.env t
  · refine Nat.le_trans List.countP_le_length (by simp)

end Go.Abs
