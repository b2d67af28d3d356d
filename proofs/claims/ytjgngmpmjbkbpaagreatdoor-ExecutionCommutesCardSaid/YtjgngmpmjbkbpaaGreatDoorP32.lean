/- Texts of this claim, joined and written short by a program. -/
import Derived.Test.YtjgngmpmjbkbpaaGreatDoorP31
import Derived.Test.YtjgngmpmjbkbpaaGreatDoorP00
set_option linter.unusedVariables false
set_option linter.unusedSimpArgs false
set_option linter.unusedSectionVars false
namespace Go.Abs.gB
open Go Go.Abs
def rN {J : hP} : cP J -> Bool
 | .cells .. => true
 | _ => false
structure Fr {J : hP} (s ar : bH J) : Prop where
 vs : ∀ t, t ∉ ar.dA -> bI ar.vs t = bI s.vs t
 dA : ∀ t ∈ s.dA, t ∈ ar.dA
 cZ : ∀ p ∈ s.cZ, p ∈ ar.cZ
 aL : s.aL <+: ar.aL
 aF : s.aF <= ar.aF
 mem : ∀ o w cs, bI s.mem o = some (.cells w cs) -> ∃ cs', bI ar.mem o = some (.cells w cs') /\ cs'.length = cs.length /\ ∀ j : Nat, (o, j) ∉ ar.cZ -> cs'[j]? = cs[j]?
 row : ∀ o aT, rN aT = false -> bI s.mem o = some aT -> bI ar.mem o = some aT \/ (o, 0) ∈ ar.cZ
section
variable {J : hP} {b : Nat} {F : cW} {fs : List V} {s ar Eg : bH J} {σ bF : cb} {H : Heap} {G : Nat -> List (Nat × cE)} {ρ : List V} {az : l5 J} {A : Type} [aV A] {S : A -> Prop} {ad : Nat -> Option ca} {cr : pG J}
theorem Fr.rfl : Fr s s := ⟨fun _ _ => Eq.refl _, fun _ h => h, fun _ h => h, eY, aK _, fun o w cs h => ⟨cs, h, Eq.refl _, fun _ _ => Eq.refl _⟩, fun _ _ _ h => .inl h⟩
theorem Fr.trans (h : Fr s ar) (k : Fr ar Eg) : Fr s Eg where
 vs := fun t ht => (k.vs t ht).trans (h.vs t fun q => ht (k.dA t q))
 dA := fun t ht => k.dA t (h.dA t ht)
 cZ := fun p hp => k.cZ p (h.cZ p hp)
 aL := h.aL.trans k.aL
 aF := c4 h.aF k.aF
 mem := fun o w cs hm => by
  obtain ⟨n1, h1, h2, av⟩ := h.mem o w cs hm
  obtain ⟨Es, cn, dZ, lx⟩ := k.mem o w n1 h1
  exact ⟨Es, cn, dZ.trans h2, fun j hj => (lx j hj).trans (av j fun q => hj (k.cZ _ q))⟩
 row := fun o aT hc hm => (h.row o aT hc hm).elim (k.row o aT hc) fun q => .inr (k.cZ _ q)
theorem jf.bN (h : jf s ar) : Fr s ar where
 vs := fun t _ => by rw [h.vs]
 dA := fun t ht => by rw [h.dA]; exact ht
 cZ := fun t ht => by rw [h.cZ]; exact ht
 aL := h.aL
 aF := by rw [h.aF]; exact aK _
 mem := fun o w cs hm => ⟨cs, by rw [h.mem]; exact hm, Eq.refl _, fun _ _ => Eq.refl _⟩
 row := fun o aT hc hm => .inl (by rw [h.mem]; exact hm)
theorem VW {α : Type} {l : List (Nat × α)} {t : Nat} (h : t ∉ l.map Prod.fst) : bI l t = none := by
 cases e : bI l t with
 | none => rfl
 | some a => exact absurd (r2 (f := Prod.fst) (ky e)) h
theorem cl.put (R : cl J b F fs s σ H G ρ) {t : Nat} {v : aN J.ay} {w : V} (af : bY J s.aL ρ fs v w) {dA : List Nat} : cl J b F fs { s with vs := (t, v) :: s.vs, dA := dA } (up σ t w) H G ρ where
 aF := R.aF
 vs := fun k u h => by
  rw [gd] at h
  split at h
  · rename_i e; cases h; subst e; rw [uB]; exact af
  · rename_i e; rw [iE _ _ (fun q => e q.symm)]; exact R.vs k u h
 own := R.own
 dE := R.dE
 lt := R.lt
 mem := R.mem
 ea := R.ea
theorem VX {t : Nat} {v : aN J.ay} : Fr s { s with vs := (t, v) :: s.vs, dA := t :: s.dA } where
 vs := fun k h => by
  rw [gd, if_neg]
  intro e; subst e
  exact h (qN ..)
 dA := fun t ht => k5 _ ht
 cZ := fun _ h => h
 aL := eY
 aF := aK _
 mem := fun o w cs hm => ⟨cs, hm, Eq.refl _, fun _ _ => Eq.refl _⟩
 row := fun _ _ _ h => .inl h
theorem cl.new (R : cl J b F fs s σ H G ρ) (v : V) : (ρ ++ [v])[s.aF]? = some v := by rw [<- R.aF]; simp
theorem cl.add (R : cl J b F fs s σ H G ρ) {H' : Heap} {m' : List (Nat × cE)} {aT : cP J} {v : V} (aD : Own H' (m' :: eX s G F)) (hb : pK J b s.aL (ρ ++ [v]) fs s.aF m' aT) :
  cl J b F fs (ke s aT) σ H' (fun o => if o = s.aF then m' else G o) (ρ ++ [v]) where
 aF := by simp [ke, R.aF]
 vs := fun t v h => (R.vs t v h).mono eY (iL _ _)
 own := by
  have : eX (ke s aT) (fun o => if o = s.aF then m' else G o) F = m' :: eX s G F := by
   unfold eX ke
   simp only [eD, if_pos, oX]
   congr 2
   refine pX fun e he => ?_
   rw [if_neg (p5 (R.lt e he))]
  rw [this]; exact aD
 dE := by
  show (s.aF :: s.mem.map Prod.fst).Nodup
  refine vj.2 ⟨fun h => ?_, R.dE⟩
  obtain ⟨e, he, q⟩ := ey.1 h
  exact absurd q (p5 (R.lt e he))
 lt := fun e he => by
  rcases dS.1 he with rfl | he
  · exact wZ _
  · exact JN (R.lt e he)
 mem := fun o c h => by
  have h : bI ((s.aF, aT) :: s.mem) o = some c := h
  rw [gd] at h
  split at h
  · rename_i e; cases h; subst e; rw [if_pos rfl]; exact hb
  · rename_i e
    have := (R.mem o c h).mono (eY (l := s.aL)) (iL ρ [v])
    simp only [ki e, if_false]
    exact this
 ea := R.ea
theorem Et (R : cl J b F fs s σ H G ρ) {aT : cP J} : Fr s (ke s aT) where
 vs := fun _ _ => Eq.refl _
 dA := fun _ h => h
 cZ := fun _ h => h
 aL := eY
 aF := Fm _
 mem := fun o w cs hm => ⟨cs, by
  show bI ((s.aF, aT) :: s.mem) o = _
  rw [gd, if_neg (Nat.ne_of_gt (R.lt _ (ky hm)))]; exact hm, Eq.refl _, fun _ _ => Eq.refl _⟩
 row := fun o c hc hm => .inl (by
  show bI ((s.aF, aT) :: s.mem) o = _
  rw [gd, if_neg (Nat.ne_of_gt (R.lt _ (ky hm)))]; exact hm)
theorem wu (o : Nat) (c : cP J) : ∀ l : List (Nat × cP J), (k1 o c l).map Prod.fst = l.map Prod.fst
 | [] => rfl
 | (k, d) :: r => by
   simp only [k1]
   split
   · rfl
   · simp [wu o c r]
theorem sW (o : Nat) (c : cP J) : ∀ (l : List (Nat × cP J)) (t : Nat), bI (k1 o c l) t = if t = o then (bI l t).map fun _ => c else bI l t
 | [], t => by simp [k1, bI]
 | (k, d) :: r, t => by
   simp only [k1]
   split
   · rename_i e
     have e := fl e
     subst e
     rw [gd, gd]
     by_cases q : k = t
     · subst q; simp
     · simp [q, ki q]
   · rename_i e
     have e : k ≠ o := fun q => by rw [q, zt] at e; cases e
     rw [gd, gd, sW o c r t]
     by_cases q : k = t
     · subst q; simp [e]
     · simp [q]
theorem NL {o f o' j : Nat} : ∀ {n : Nat} {l : List (Nat × Nat)}, (o', j) ∈ marks o f n l ↔ (o' = o /\ f <= j /\ j < f + n) \/ (o', j) ∈ l
 | 0, l => by simp only [marks]; constructor <;> intro h <;> first | exact .inr h | (rcases h with h | h; omega; exact h)
 | n + 1, l => by
   simp only [marks, dS, NL (n := n), bw]
   constructor
   · rintro (⟨rfl, rfl⟩ | ⟨rfl, h⟩ | h)
     · exact .inl ⟨rfl, by omega, by omega⟩
     · exact .inl ⟨rfl, by omega, by omega⟩
     · exact .inr h
   · rintro (⟨rfl, h1, h2⟩ | h)
     · by_cases q : j = f + n
       · exact .inl ⟨rfl, q⟩
       · exact .inr (.inl ⟨rfl, h1, by omega⟩)
     · exact .inr (.inr h)
theorem VY : ∀ (xs cs : List (aN J.ay)) (o : Nat), (sQ cs o xs).length = cs.length
 | [], _, _ => rfl
 | x :: xs, cs, o => by simp [sQ, VY xs]
theorem VZ : ∀ (xs cs : List (aN J.ay)) (o j : Nat), ¬ (o <= j /\ j < o + xs.length) -> (sQ cs o xs)[j]? = cs[j]?
 | [], _, _, _, _ => rfl
 | x :: xs, cs, o, j, h => by
   simp only [iv] at h
   rw [sQ, VZ xs _ (o + 1) j (by omega), k4 (by omega)]
theorem aiF {o : Nat} {c : cP J} {m : List (Nat × cE)} {k : Nat} (ai : k < s.mem.length) (hid : s.mem[k].1 = o) (dE : (s.mem.map Prod.fst).Nodup) {cZ : List (Nat × Nat)} :
  eX { s with mem := k1 o c s.mem, cZ := cZ } (fun q => if q = o then m else G q) F = (eX s G F).set k m := by
 unfold eX
 simp only
 rw [PB _ _ (by simpa using ai)]
 congr 1
 have ah : (k1 o c s.mem).map (fun e => if e.1 = o then m else G e.1) = ((k1 o c s.mem).map Prod.fst).map (fun q => if q = o then m else G q) := by rw [qR]; rfl
 have e2 : s.mem.map (fun e => G e.1) = (s.mem.map Prod.fst).map G := by rw [qR]; rfl
 rw [ah, e2, wu]
 have hk' : k < (s.mem.map Prod.fst).length := by simpa using ai
 have NM : (s.mem.map Prod.fst)[k] = o := by simpa using hid
 generalize s.mem.map Prod.fst = l at dE hk' NM
 apply zn
 intro i
 rw [kh]
 by_cases e : k = i
 · subst e
   rw [tc (by simpa using hk'), oV hk', NM]; simp
 · rw [k4 e, kh]
   cases hi : l[i]? with
   | none => rfl
   | some q =>
     have qu := (fy.1 hi)
     obtain ⟨qu, bD⟩ := qu
     have : q ≠ o := fun h => e ((List.getElem_inj (h₀ := hk') (h₁ := qu) dE).1 (by rw [NM, bD, h]))
     simp [this]
theorem cl.cg (R : cl J b F fs s σ H G ρ) {H' : Heap} {o k : Nat} {c e3 : cP J} {m' : List (Nat × cE)} {cZ : List (Nat × Nat)} (hm : bI s.mem o = some e3) (ai : k < s.mem.length) (hid : s.mem[k].1 = o) (hc : pK J b s.aL ρ fs o m' c) (aD : Own H' ((eX s G F).set k m')) :
  cl J b F fs { s with mem := k1 o c s.mem, cZ := cZ } σ H' (fun q => if q = o then m' else G q) ρ where
 aF := R.aF
 vs := R.vs
 own := by rw [aiF ai hid R.dE]; exact aD
 dE := by show ((k1 o _ s.mem).map Prod.fst).Nodup; rw [wu]; exact R.dE
 lt := fun e he => by
  have : e.1 ∈ (k1 o c s.mem).map Prod.fst := r2 he
  rw [wu] at this
  obtain ⟨e', h1, h2⟩ := ey.1 this
  rw [<- h2]; exact R.lt e' h1
 mem := fun q aT h => by
  have h1 : bI (k1 o c s.mem) q = some aT := h
  clear h
  rw [sW] at h1
  have h := h1
  clear h1
  split at h
  · rename_i e; subst e
    rw [hm] at h
    cases h
    rw [if_pos rfl]; exact hc
  · rename_i e
    have := R.mem q aT h
    simp only [e, if_false]
    exact this
 ea := R.ea
theorem aiG {o f : Nat} {vs cs : List (aN J.ay)} {w : Bool} (hm : bI s.mem o = some (.cells w cs)) : Fr s { s with mem := k1 o (.cells w (sQ cs f vs)) s.mem, cZ := marks o f vs.length s.cZ } where
 vs := fun _ _ => Eq.refl _
 dA := fun _ h => h
 cZ := fun p h => by obtain ⟨a, c⟩ := p; exact NL.2 (.inr h)
 aL := eY
 aF := aK _
 mem := fun q w' cs' h => by
  simp only [sW]
  by_cases e : q = o
  · subst e
    rw [h] at hm
    cases hm
    exact ⟨_, by rw [if_pos rfl, h]; rfl, VY _ _ _, fun j hj => VZ _ _ _ _ fun q => hj (NL.2 (.inl ⟨rfl, q.1, q.2⟩))⟩
  · exact ⟨cs', by rw [if_neg e]; exact h, rfl, fun _ _ => rfl⟩
 row := fun q aT hc h => by
  simp only [sW]
  by_cases e : q = o
  · subst e; rw [h] at hm; cases hm; cases hc
  · rw [if_neg e]; exact .inl h
theorem V0 {o : Nat} {e3 c : cP J} (hc : rN e3 = false) (hm : bI s.mem o = some e3) : Fr s { s with mem := k1 o c s.mem, cZ := (o, 0) :: s.cZ } where
 vs := fun _ _ => Eq.refl _
 dA := fun _ h => h
 cZ := fun p h => k5 _ h
 aL := eY
 aF := aK _
 mem := fun q w' cs' h => by
  simp only [sW]
  by_cases e : q = o
  · subst e; rw [h] at hm; cases hm; cases hc
  · exact ⟨cs', by rw [if_neg e]; exact h, rfl, fun _ _ => rfl⟩
 row := fun q aT _ h => by
  simp only [sW]
  by_cases e : q = o
  · subst e; exact .inr (qN ..)
  · rw [if_neg e]; exact .inl h
theorem V1 {o n : Nat} : ∀ {l : List (Nat × cP J)} {aT : cP J}, bI l o = some aT -> (∀ e ∈ l, e.1 < n) -> ∃ k, (l.map fun e => G e.1)[k]? = some (G o) /\ ∀ (c : cP J) m', ((l6 o n c l).map fun e => if e.1 = n then m' else G e.1) = (l.map fun e => G e.1).set k m'
 | (a, d) :: r, aT, h, hn => by
   simp only [bI] at h
   simp only [l6]
   split at h
   · rename_i e
     try rw [e]
     refine ⟨0, by simp [fl e], fun c m' => ?_⟩
     simp only [eD, List.set_cons_zero, if_pos]
     congr 1
     exact pX fun e he => if_neg (p5 (hn e (k5 _ he)))
   · rename_i e
     try rw [e]
     obtain ⟨k, h1, h2⟩ := V1 h fun e he => hn e (k5 _ he)
     refine ⟨k + 1, by simpa using h1, fun c m' => ?_⟩
     simp only [eD, List.set_cons_succ, h2, if_neg (p5 (hn _ (qN ..)))]
theorem Iy {o n : Nat} {c : cP J} : ∀ {l : List (Nat × cP J)} {e : Nat × cP J}, e ∈ l6 o n c l -> e = (n, c) \/ e ∈ l
 | (a, d) :: r, e, h => by
   simp only [l6] at h
   split at h
   · rcases dS.1 h with h | h
     · exact .inl h
     · exact .inr (k5 _ h)
   · rcases dS.1 h with rfl | h
     · exact .inr (qN ..)
     · exact (Iy h).imp id (k5 _)
theorem V2 {o n : Nat} {c : cP J} : ∀ {l : List (Nat × cP J)}, (l.map Prod.fst).Nodup -> (∀ e ∈ l, e.1 < n) -> ((l6 o n c l).map Prod.fst).Nodup
 | [], h, _ => h
 | (a, d) :: r, h, hn => by
   have h' := vj.1 h
   have nG : ∀ e ∈ r, e.1 < n := fun e he => hn e (k5 _ he)
   simp only [l6]
   split
   · refine vj.2 ⟨fun q => ?_, h'.2⟩
     obtain ⟨x, hx, q⟩ := ey.1 q
     exact p5 (nG x hx) q
   · refine vj.2 ⟨fun q => ?_, V2 h'.2 nG⟩
     obtain ⟨x, hx, q⟩ := ey.1 q
     rcases Iy hx with rfl | hx
     · exact p5 (hn _ (qN ..)) q.symm
     · exact h'.1 (by rw [<- q]; exact r2 hx)
theorem V3 {o n : Nat} {c : cP J} (hn : n ≠ o) : ∀ {l : List (Nat × cP J)}, (l.map Prod.fst).Nodup -> bI (l6 o n c l) o = none
 | [], _ => rfl
 | (a, d) :: r, h => by
   have h' := vj.1 h
   simp only [l6]
   split
   · rename_i e
     have e := fl e
     subst e
     rw [gd, if_neg hn]
     exact VW h'.1
   · rename_i e
     rw [gd, if_neg (fun q => by rw [q, zt] at e; cases e)]
     exact V3 hn h'.2
theorem Iz {o n q : Nat} {c : cP J} (h1 : q ≠ o) (h2 : q ≠ n) : ∀ l : List (Nat × cP J), bI (l6 o n c l) q = bI l q
 | [] => rfl
 | (a, d) :: r => by
   simp only [l6]
   split
   · rename_i e
     have e := fl e
     subst e
     rw [gd, gd, if_neg (ki h1), if_neg (ki h2)]
   · rw [gd, gd, Iz h1 h2 r]
theorem cl.rep (R : cl J b F fs s σ H G ρ) {o : Nat} {e3 : cP J} (hm : bI s.mem o = some e3) : ∃ k : Nat, (eX s G F)[k]? = some (G o) /\ ∀ {H' : Heap} {c : cP J} {v : V} {m' : List (Nat × cE)} {cZ : List (Nat × Nat)},
  pK J b s.aL (ρ ++ [v]) fs s.aF m' c -> Own H' ((eX s G F).set k m') -> cl J b F fs { s with mem := l6 o s.aF c s.mem, aF := s.aF + 1, cZ := cZ } σ H' (fun q => if q = s.aF then m' else G q) (ρ ++ [v]) := by
 obtain ⟨k, h1, h2⟩ := V1 (G := G) hm R.lt
 have aH := (fy.1 h1).1
 refine ⟨k, by unfold eX; rw [hq aH]; exact h1, fun {H' c v m' cZ} hc aD => ?_⟩
 have bA : s.aF ≠ o := fun e => absurd (R.lt _ (ky hm)) (by rw [<- e]; exact Nat.lt_irrefl _)
 exact {
  aF := by simp [R.aF]
  vs := fun t v h => (R.vs t v h).mono eY (iL _ _)
  own := by
   unfold eX at aD ⊢
   rw [PB _ _ aH] at aD
   rw [show (l6 o s.aF c s.mem).map (fun e => if e.1 = s.aF then m' else G e.1) = _ from h2 c m']
   exact aD
  dE := V2 R.dE R.lt
  lt := fun e he => by
   rcases Iy he with rfl | he
   · exact wZ _
   · exact JN (R.lt e he)
  mem := fun q aT h => by
   have h : bI (l6 o s.aF c s.mem) q = some aT := h
   by_cases ah : q = s.aF
   · subst ah
     rw [if_pos rfl]
     rcases Iy (ky h) with e | e
     · cases e; exact hc
     · exact absurd (R.lt _ e) (Nat.lt_irrefl _)
   · by_cases e2 : q = o
     · subst e2; rw [V3 bA R.dE] at h; cases h
     · rw [Iz e2 ah] at h
       rw [if_neg ah]
       exact (R.mem q aT h).mono eY (iL _ _)
  ea := R.ea }
theorem aiH (R : cl J b F fs s σ H G ρ) {o t : Nat} {x : ak (J.ay t)} {c : cP J} (hm : bI s.mem o = some (.row t x)) : Fr s { s with mem := l6 o s.aF c s.mem, aF := s.aF + 1, cZ := (o, 0) :: s.cZ } where
 vs := fun _ _ => Eq.refl _
 dA := fun _ h => h
 cZ := fun p h => k5 _ h
 aL := eY
 aF := Fm _
 mem := fun q w' cs' h => ⟨cs', by
  have ah : q ≠ o := fun e => by subst e; rw [h] at hm; cases hm
  show bI (l6 o s.aF c s.mem) q = _
  rw [Iz ah (p5 (R.lt _ (ky h)))]; exact h, rfl, fun _ _ => rfl⟩
 row := fun q aT _ h => by
  by_cases e : q = o
  · subst e; exact .inr (qN ..)
  · refine .inl ?_
    show bI (l6 o s.aF c s.mem) q = _
    rw [Iz e (p5 (R.lt _ (ky h)))]; exact h
inductive iq : List Bool -> List Bool -> Prop
 | nil : iq [] []
 | cons {a c : Bool} {l r : List Bool} (h : a = true -> c = true) (k : iq l r) : iq (a :: l) (c :: r)
theorem iq.get {l r : List Bool} : iq l r -> ∀ {i : Nat}, l[i]? = some true -> r[i]? = some true
 | .nil, _, h => by simp at h
 | .cons h k, 0, e => by simp at e; subst e; simp [h rfl]
 | .cons h k, i + 1, e => by simpa using k.get (by simpa using e)
theorem iq.app {l r fp n6 : List Bool} : iq l r -> iq fp n6 -> iq (l ++ fp) (r ++ n6)
 | .nil, h => h
 | .cons h k, h' => .cons h (k.app h')
theorem iq.rev {l r : List Bool} : iq l r -> iq l.reverse r.reverse
 | .nil => .nil
 | .cons h k => by rw [List.reverse_cons, List.reverse_cons]; exact k.rev.app (.cons h .nil)
theorem aiI {fY : List Nat} {ops : List b3} {wr n2 : List Bool} (h : iq wr n2) (ho : p7 fY ops n2 = true) : p7 fY ops wr = true := by
 unfold p7 at ho ⊢
 rcases kG _ _ |>.mp ho with ho | ho
 · rw [kG]; left
   unfold vn at ho ⊢
   split
   · rename_i aiJ
     have aiK : n2.any id = true := by
      obtain ⟨x, hx, kn⟩ := tg.1 aiJ
      simp only [id] at kn; subst kn
      obtain ⟨i, hi⟩ := nu.1 hx
      exact tg.2 ⟨true, fm (h.get hi), rfl⟩
     rw [if_pos aiK] at ho
     rw [fo] at ho ⊢
     rintro ⟨w, i⟩ hw
     cases w with
     | false => rfl
     | true =>
       have hi := h.get (ma.1 hw)
       exact ho (true, i) (ma.2 hi)
   · rfl
 · rw [kG]; exact .inr ho
theorem aiL {B : List Bool} {v : aN J.ay} {w : V} (h : Nu v = true) (af : bY J B ρ fs v w) : plainCell w = true := by
 cases af <;> simp only [Nu] at h
 case sl s => cases s <;> rfl
 all_goals first | rfl | exact h | cases h
theorem V4 {B : List Bool} : ∀ {cs : List (aN J.ay)} {ws : List V}, Ii cs = true -> bp J B ρ fs cs ws -> k6 ws = true
 | _, _, _, .nil => rfl
 | _, _, h, .cons h' r => by
   simp only [Ii] at h
   split at h
   · rename_i e; simp only [k6, aiL e h', V4 h r, zq]
   · cases h
theorem V5 {B : List Bool} {u : aN J.ay} {w : V} {f : Nat} {vs : List (aN J.ay)} {ws : List V} (h : (match f, vs with | 0, [x] => some x | _, _ => none) = some u) (hs : bp J B ρ fs vs ws) (hw : ∀ l, w ≠ .agg l) : ∃ w', vm w f ws = some w' /\ bY J B ρ fs u w' := by
 split at h
 · cases h
   cases hs with
   | cons hx r => cases r; exact ⟨_, by unfold vm; split; exact absurd rfl (hw _); rfl, hx⟩
 · cases h
theorem aiM {B : List Bool} {v u : aN J.ay} {w : V} {f : Nat} {vs : List (aN J.ay)} {ws : List V} (h : Nv v f vs = some u) (af : bY J B ρ fs v w) (hs : bp J B ρ fs vs ws) : ∃ w', vm w f ws = some w' /\ bY J B ρ fs u w' := by
 cases af <;> simp only [Nv] at h
 case agg af =>
  split at h
  · rename_i e
    cases h
    refine ⟨_, ?_, .agg (It hs f af)⟩
    simp only [vm]
    rw [if_pos (by rw [<- af.length, <- hs.length]; exact k3 e)]
  · cases h
 case sl s => exact V5 h hs (fun l e => by cases s <;> cases e)
 all_goals first | cases h | exact V5 h hs (fun l e => by cases e)
theorem V6 {B : List Bool} {v : aN J.ay} {w c : V} (h : wk v = some (.k c)) (af : bY J B ρ fs v w) : w = c := by
 unfold wk at h
 split at h <;> first | (cases h; cases af; rfl) | cases h
theorem NN {B : List Bool} {t : Nat} {v : aN J.ay} {w : V} {l : ak (J.ay t)} (h : eW t v = some l) (af : bY J B ρ fs v w) : w = bP (J.es t) (J.enc t) l := by
 unfold eW at h
 split at h
 · split at h
   · rename_i e; subst e; cases h; cases af; rfl
   · cases h
 · cases h; cases af; rfl
 · cases h; cases af; rfl
 · cases h
theorem aiN {B : List Bool} : ∀ z : List V, bY J B ρ fs (VB z) (lO z)
 | [] => .agg .nil
 | [v] => Ir v
 | a :: c :: r => .agg (Eh (a :: c :: r))
theorem aiO {a c : aj} {bL : IntKind} {n : Int} (h : Nt a c = true) (ao : bX bF σ a = .int bL n) : ∃ k, bX bF σ c = .int k n := by
 unfold Nt at h
 split at h
 · rw [fl h] at ao; exact ⟨_, ao⟩
 · rw [fl h] at ao; exact ⟨_, ao⟩
 · have := of_decide_eq_true h
   subst this
   cases ao
   exact ⟨_, rfl⟩
 · cases h
set_option maxHeartbeats 1000000 in
theorem atP {m' : List (Nat × cP J)} : ∀ {l : List (Nat × cP J)} {o : Nat} {c : cP J}, (o, c) ∈ l -> bI m' o = none -> (o, 0) ∈ gone m' l
 | (a, d) :: r, o, c, h, hn => by
   simp only [gone]
   rcases dS.1 h with e | h
   · cases e; rw [hn]; exact qN ..
   · split
     · exact atP h hn
     · exact k5 _ (atP h hn)
theorem atQ {m' : List (Nat × cP J)} : ∀ {l : List (Nat × cP J)} {o : Nat} {w : Bool} {cs : List (aN J.ay)}, atv m' l = true -> (o, cP.cells w cs) ∈ l -> ∃ c, bI m' o = some c
 | (a, d) :: r, o, w, cs, h, fB => by
   simp only [atv] at h
   rcases dS.1 fB with e | hm
   · cases e
     simp only at h
     split at h
     · rename_i c hc; exact ⟨c, hc⟩
     · cases h
   · split at h
     · split at h
       · exact atQ h hm
       · cases h
     · exact atQ h hm
theorem avy {len : Nat} {parts : List (Nat × aj)} {mG : Bool} {o : Nat} {x : aj} (h : atN az s len parts mG = some (o, x)) : len = 1 /\ parts = [(0, x)] /\ mG = true /\ ag az s x = some (.row o) := by
 unfold atN at h
 split at h
 · split at h
   · rename_i he; cases h; exact ⟨rfl, rfl, rfl, he⟩
   · cases h
 · cases h
theorem atS {o : Nat} : ∀ {m : List (Nat × cP J)} {k : Nat}, k ≠ o -> bI (AV o m) k = bI m k
 | [], _, _ => rfl
 | (a, c) :: r, k, ai => by
   simp only [AV]
   split
   · rename_i e
     have e := fl e
     rw [gd, if_neg (by rw [e]; exact fun q => ai q.symm)]
   · rw [gd, gd, atS ai]
theorem zU (bm : gC J) (aJ : n0 S) (hT : as0 ad cr) (ae : ∀ j f, nth cr.fv j = some f -> ∃ w, fs[j]? = some w /\ oM ad F f.dQ f.rt f.f w)
  (R : cl J b F fs s σ H G ρ) (b7 : ∀ t v, bI az t = some v -> bY J s.aL ρ fs v (bF t)) {d : Option (Nat × Bool)} {op : cH} {g : Option (aj × Bool)} {rest : List b3} {wr : List Bool} {k : aN J.ay -> bH J -> Bool -> A} {Q : cb -> Heap -> List Bool -> Prop}
  (h : S (oper cr az s d k op)) (hw : hE bF σ g = some true)
  (dq : ∀ v ar w H' G' cS mv NP, S (k v ar NP) -> (mv = true -> NP = true) -> cl J b F fs ar σ H' G' cS -> bY J ar.aL cS fs v w -> ρ <+: cS -> Fr s ar -> Op ad b rest (gL bF d w) (gM σ d w) H' (mv :: wr) Q) :
  Op ad b (⟨d, op, g⟩ :: rest) bF σ H wr Q := by
 unfold oper at h
 split at h
 · rename_i z
   refine x4 hw R.own fun H' a ao aD => ?_
   exact dq _ _ _ _ _ _ _ _ h (fun _ => rfl) (R.add aD ⟨a, _, R.new _, rfl, Eh z, fun _ => ao⟩) (.ptr (R.new _)) (iL _ _) (Et R)
 · rename_i x
   split at h
   · exact absurd h aJ.bad
   · rename_i v af
     split at h
     · exact absurd h aJ.bad
     · rename_i cs hc
       split at h
       · rename_i ho
         have fA := yD hc (dm R b7 af)
         refine Mp hw R.own rfl (Is ho fA) fun H' a ao aD => ?_
         exact dq _ _ _ _ _ _ _ _ h (fun _ => rfl) (R.add aD ⟨a, _, R.new _, rfl, fA.mono eY (iL _ _), fun _ => ao⟩) (.ptr (R.new _)) (iL _ _) (Et R)
       · exact absurd h aJ.bad
 · rename_i n x y
   split at h
   · rename_i o f v hx hy
     split at h
     · rename_i cs vs hm hc
       split at h
       · rename_i ah e2 b5
         have xI := dm R b7 hx
         generalize yI : bX bF σ x = uR at xI
         cases xI with
         | ptr ho =>
           obtain ⟨a, ws, q1, aS, bZ, cR, e8⟩ := R.cells hm
           rw [q1] at ho
           cases ho
           have cO := avw R hc (dm R b7 hy)
           obtain ⟨i, hi, aH, En, hid⟩ := R.at hm
           refine x5 hw R.own i (by rw [hi, aS]) (e8 rfl) yI rfl ⟨by rw [<- cO.length]; exact fl ah, by
            have := fl ah
            rw [<- cR.length]; exact k3 e2⟩ (auc R b5 cO) rfl fun H' aD => ?_
           exact dq _ _ _ _ _ _ _ _ h (fun _ => rfl) (R.cg hm aH hid ⟨_, _, q1, rfl, It cO f cR, e8⟩ aD) .k eY (aiG hm)
       · exact absurd h aJ.bad
     · exact absurd h aJ.bad
   · rename_i o i f v hx hy
     split at h
     · rename_i t b8 vs hm hc
       split at h
       · rename_i ah e2
         obtain ⟨e, he, h⟩ := aJ.db h
         obtain ⟨arN, ar, h1, h2, av⟩ := yE (ρ := ρ) (fs := fs) bm h
         split at h1
         · exact absurd h1 aJ.bad
         · rename_i u hu
           split at h1
           · exact absurd h1 aJ.bad
           · rename_i e' asP
             have mS := R.ei h2
             have mg : bI ar.mem o = some (.row t b8) := by rw [h2.mem]; exact hm
             have xI := dm R b7 hx
             generalize yI : bX bF σ x = uR at xI
             cases xI with
             | im ho =>
               obtain ⟨v0, q1, aS⟩ := mS.mem o _ mg
               rw [q1] at ho
               cases ho
               have := aS.VL
               subst this
               have cO := (yD hc (dm R b7 hy)).mono h2.aL eY
               obtain ⟨k, hi, aH, En, hid⟩ := mS.at mg
               obtain ⟨w', p1, p2⟩ := aiM hu av cO
               have rC := bm.iH _ _ _ _ _ _ _ p2 asP
               subst rC
               refine afH hw k he mS.own hi aS rfl yI rfl (by rw [<- cO.length]; exact fl ah) (V4 e2 cO) p1 fun H' m' hr aD => ?_
               exact dq _ _ _ _ _ _ _ _ h1 (fun _ => rfl) (mS.cg mg aH hid ⟨_, q1, hr⟩ aD) .k eY (h2.bN.trans (V0 rfl mg))
       · exact absurd h aJ.bad
     · exact absurd h aJ.bad
   · exact absurd h aJ.bad
 · rename_i es bytes sJ oq
   split at h
   · rename_i o y A4 NQ
     split at h
     · rename_i t x hm
       unfold AW at h
       split at h
       · rename_i rO ah e2
         obtain ⟨z, aP, h⟩ := aJ.db h
         have nE := dm R b7 A4
         generalize gO : bX bF σ sJ = wa at nE
         cases nE with
         | row ho =>
           obtain ⟨v0, q1, aS⟩ := R.mem o _ hm
           rw [q1] at ho
           cases ho
           have ah := fl ah
           subst ah
           obtain ⟨k, hi, pe⟩ := R.rep hm
           refine U1 hw k aP R.own hi aS gO (NN e2 (dm R b7 NQ)) (bm.bO t) (bm.ok t) fun H' v' m' mv hr aD => ?_
           exact dq _ _ _ _ _ _ _ _ h (fun _ => rfl) (pe ⟨v', R.new v', hr⟩ aD) (.row (R.new v')) (iL _ _) (aiH R hm)
       · exact absurd h aJ.bad
     · exact absurd h aJ.bad
   · rename_i x t y _ A4 NQ
     have key : ∀ {b8 : ak (J.ay t)} {fH : V}, bX bF σ sJ = fH -> ku b (J.es t) (J.enc t) fH b8 [] -> S (AW s es bytes t b8 none (.sl t y) k) -> Op ad b (⟨d, .append es bytes sJ oq, g⟩ :: rest) bF σ H wr Q := by
      intro b8 fH gO aiP vz
      unfold AW at vz
      split at vz
      · rename_i rO ah e2
        obtain ⟨z, aP, vz⟩ := aJ.db vz
        have ah := fl ah
        subst ah
        refine U1 (ms := [] :: eX s G F) hw 0 aP (R.own.ins 0) rfl aiP gO (NN e2 (dm R b7 NQ)) (bm.bO t) (bm.ok t) fun H' v' m' mv hr aD => ?_
        exact dq _ _ _ _ _ _ _ _ vz (fun _ => rfl) (R.add aD ⟨v', R.new v', hr⟩) (.row (R.new v')) (iL _ _) (Et R)
      · exact absurd vz aJ.bad
     have hn := dm R b7 A4
     split at h
     · rename_i e
       exact key (V6 e hn) .nil h
     · rename_i e
       exact key (V6 e hn) .emp h
     · exact absurd h aJ.bad
   · exact absurd h aJ.bad
 · rename_i es z bytes aiQ sk
   split at h
   · rename_i q e1
     split at h
     · rename_i t bL n ht hs hl
       split at h
       · rename_i e ah e2
         obtain ⟨x, hx, h⟩ := aJ.db h
         have ah := fl ah
         subst ah
         have lh := dm R b7 hl
         generalize V7 : bX bF σ aiQ = wl at lh
         cases lh
         obtain ⟨Vb, hc⟩ := aiO hs V7
         refine afF hw hx R.own (bm.iH _ _ _ _ _ _ _ (aiN (ρ := ρ) (fs := fs) z) e2) V7 hc fun H' v' m' mv hr aD => ?_
         exact dq _ _ _ _ _ _ _ _ h (fun _ => rfl) (R.add aD ⟨v', R.new v', hr⟩) (.row (R.new v')) (iL _ _) (Et R)
       · exact absurd h aJ.bad
     · exact absurd h aJ.bad
   · exact absurd h aJ.bad
 · split at h
   · rename_i q e1
     split at h
     · rename_i c hc
       split at h
       · rename_i p hp
         refine UW hw R.own fun H' a ao aD => ?_
         exact dq _ _ _ _ _ _ _ _ h (fun _ => rfl) (R.add aD ⟨a, R.new _, rfl, ao⟩) (.row (R.new _)) (iL _ _) (Et R)
       · exact absurd h aJ.bad
     · exact absurd h aJ.bad
   · exact absurd h aJ.bad
 · rename_i kind x i y
   split at h
   · rename_i o v u hx hi hy
     split at h
     · rename_i eh jd m hm
       split at h
       · rename_i key val ah e2 b5
         have e0 := dm R b7 hx
         generalize gO : bX bF σ x = wa at e0
         cases e0 with
         | row ho =>
           obtain ⟨a, q1, aS, bZ⟩ := R.mem o _ hm
           obtain ⟨bs, ai, aH, En, hid⟩ := R.at hm
           rw [q1] at ho
           cases ho
           refine @Va ad b bF σ H wr rest _ _ ⟨J.beq eh⟩ _ _ _ _ m key val _ _ _ _ _ _ _ hw (NG bm b5) R.own bs (by rw [ai, aS]) bZ gO (bm.iH _ _ _ _ _ _ _ (dm R b7 hi) ah) (bm.iH _ _ _ _ _ _ _ (dm R b7 hy) e2) (bm.bO _ _) fun H' aD => ?_
           exact dq _ _ _ _ _ _ _ _ h (fun _ => rfl) (R.cg hm aH hid ⟨a, q1, rfl, bZ⟩ aD) .k eY (V0 rfl hm)
       · exact absurd h aJ.bad
     · exact absurd h aJ.bad
   · exact absurd h aJ.bad
 · rename_i f aY
   split at h
   · rename_i fv aiR A5 IA
     split at h
     · split at h
       · obtain ⟨v, ar, w, fb, m', h1, h2, av, bc, h5, gu, lv⟩ := avx bm aJ R hT ae h (dm R b7 A5) (A0 R b7 IA)
         have bM := R.ei h2
         have bA : ∀ {k : Nat} {c : cP J}, bI m' k = some c -> bI s.mem k = some c := fun ai => aiy gu R.dE ai
         have eC : ∀ {H'}, Own H' (m'.map (fun e => G e.1) ++ F) -> cl J b F fs { ar with mem := m', cZ := gone m' s.mem ++ ar.cZ } σ H' G ρ := fun aD =>
          ⟨bM.aF, bM.vs, aD, R.dE.sublist (gu.map _), fun p hp => by rw [h2.aF]; exact R.lt p (gu.subset hp), fun k c ai => (R.mem k c (bA ai)).mono h2.aL eY, bM.ea⟩
         have eT : Fr s { ar with mem := m', cZ := gone m' s.mem ++ ar.cZ } := ⟨fun t ht => by rw [h2.vs], fun t ht => by rw [h2.dA]; exact ht, fun p hp => pW _ (by rw [h2.cZ]; exact hp), h2.aL, by rw [h2.aF]; exact aK _, fun o w cs hm => by
          obtain ⟨c, hc⟩ := atQ lv (ky hm)
          have := bA hc
          rw [hm] at this
          cases this
          exact ⟨cs, hc, rfl, fun _ _ => rfl⟩, fun o c hc hm => by
          cases bD : bI m' o with
          | none => exact .inr (wX _ (atP (ky hm) bD))
          | some c' =>
            have := bA bD
            rw [hm] at this
            cases this
            exact .inl rfl⟩
         cases aud : flat w with
         | true => exact afI hw R.own bc h5 aud rfl rfl (dq _ _ _ _ _ _ _ _ h1 (fun _ => rfl) (eC (R.own.sub ((gu.map _).append (r3 _)))) av eY eT)
         | false => exact aup hw R.own bc (fun H low r hr => by obtain ⟨x, y, z⟩ := r; exact (Ro (Rp 16) hr).2) h5 aud rfl rfl fun H' mv aD => dq _ _ _ _ _ _ _ _ h1 (fun _ => rfl) (eC aD) av eY eT
       obtain ⟨v, ar, w, fb, hF, h1, h2, av, bc, h5, gu⟩ := aiD bm aJ R hT ae h (dm R b7 A5) (A0 R b7 IA)
       exact afI hw R.own bc h5 gu rfl rfl (dq _ _ _ _ _ _ _ _ h1 (fun q => by cases q) (R.ei h2) av eY h2.bN)
     obtain ⟨v, ar, w, h1, h2, av, bc⟩ := VS bm aJ R hT ae h (dm R b7 A5) (A0 R b7 IA)
     exact ic hw (Ao (bc H R.own).1 (bc H R.own).2 rfl rfl) (dq _ _ _ _ _ _ _ _ h1 (fun q => by cases q) (R.ei h2) av eY h2.bN)
   · exact absurd h aJ.bad
 · rename_i as9 aY
   split at h
   · rename_i i v QT IA
     split at h
     · rename_i p hp
       split at h
       · rename_i x hx
         obtain ⟨z, aP, h⟩ := aJ.db h
         obtain ⟨n, avz, dX, hn⟩ := hT.2 _ (ky hp)
         have ao := A0 R b7 IA
         obtain ⟨sJ, rfl⟩ : ∃ sJ, aY = [sJ] := by
          have := ao.length
          match aY, this with
          | [sJ], _ => exact ⟨sJ, rfl⟩
         cases ao with
         | cons af _ =>
           have j4 := dm R b7 QT
           generalize atT : bX bF σ as9 = wf at j4
           cases j4 with
           | fn hl =>
             cases hl
             refine auu (ms := eX s G F) hw dX hn aP R.own atT (NN hx af) (bm.bO p.1) (bm.ok p.1) fun H' v' m' mv hr aD => ?_
             exact dq _ _ _ _ _ _ _ _ h (fun _ => rfl) (R.add aD ⟨v', R.new v', hr⟩) (.row (R.new v')) (iL _ _) (Et R)
       · exact absurd h aJ.bad
     · exact absurd h aJ.bad
   · exact absurd h aJ.bad
 · rename_i es z len parts mG
   split at h
   · rename_i o awe hl
     obtain ⟨rfl, rfl, rfl, avA⟩ := avy hl
     split at h
     · rename_i q _
       split at h
       · rename_i t e5 x ht hm
         split at h
         · rename_i e he fL
           have af := dm R b7 avA
           obtain ⟨w', xF, z2, -⟩ := Er (n := 16) (F := F) (m' := AV o s.mem) (v' := .sl e5 x) bm R.NK (by simp only [rA, hm]) af
           have rC := bm.iH _ _ _ _ _ _ _ z2 he
           have fL := fl fL
           have bA : ∀ {k : Nat} {c : cP J}, bI (AV o s.mem) k = some c -> bI s.mem k = some c := fun ai => aiy (VT o _) R.dE ai
           subst rC
           refine auv hw R.own xF rfl (bm.bO t e) ⟨by rw [bm.es, fL], bm.ok t e⟩ fun H' mv aD => ?_
           refine dq _ { s with mem := AV o s.mem, cZ := (o, 0) :: s.cZ } _ H' G ρ mv true h (fun _ => rfl) ⟨R.aF, R.vs, aD, R.dE.sublist ((VT o _).map _), fun p hp => R.lt p ((VT o _).subset hp), fun k c ai => R.mem k c (bA ai), R.ea⟩ ?_ eY
            ⟨fun _ _ => rfl, fun _ h => h, fun _ h => k5 _ h, eY, aK _, fun k w cs ai => ⟨cs, (atS fun e => by subst e; rw [hm] at ai; cases ai).trans ai, rfl, fun _ _ => rfl⟩, fun k c hc ai => ?_⟩
           · have : bY J s.aL ρ fs (.sl t (.mk [e])) (bP (J.es t) (J.enc t) (.mk [e])) := .sl
             rw [fL] at this
             exact this
           · by_cases e : k = o
             · subst e; exact .inr (qN ..)
             · exact .inl ((atS e).trans ai)
         · exact absurd h aJ.bad
       · exact absurd h aJ.bad
     · exact absurd h aJ.bad
   · obtain ⟨v, ar, w, h1, h2, av, bc⟩ := VM (call := cK ad) bm aJ R b7 h
     exact ic hw (bc H R.own) (dq _ _ _ _ _ _ _ _ h1 (fun q => by cases q) (R.ei h2) av eY h2.bN)
 · obtain ⟨v, ar, w, h1, h2, av, bc⟩ := VM (call := cK ad) bm aJ R b7 h
   exact ic hw (bc H R.own) (dq _ _ _ _ _ _ _ _ h1 (fun q => by cases q) (R.ei h2) av eY h2.bN)
theorem V8 {t : Nat} {v : aN J.ay} {w : V} {B : List Bool} (b7 : ∀ t v, bI az t = some v -> bY J B ρ fs v (bF t)) (af : bY J B ρ fs v w) : ∀ k u, bI ((t, v) :: az) k = some u -> bY J B ρ fs u (up bF t w k) := fun k u h => by
 rw [gd] at h
 split at h
 · rename_i e; cases h; subst e; rw [uB]; exact af
 · rename_i e; rw [iE _ _ (fun q => e q.symm)]; exact b7 k u h
theorem A6 (bm : gC J) (aJ : n0 S) (hT : as0 ad cr) (ae : ∀ j f, nth cr.fv j = some f -> ∃ w, fs[j]? = some w /\ oM ad F f.dQ f.rt f.f w) {k : bH J -> List Bool -> A} {Q : cb -> Heap -> List Bool -> Prop} :
  ∀ {ops : List b3} {az : l5 J} {bF : cb} {s : bH J} {σ : cb} {H : Heap} {G : Nat -> List (Nat × cE)} {ρ : List V} {wr n2 : List Bool}, S (so cr ops az s n2 k) -> iq wr n2 -> cl J b F fs s σ H G ρ -> (∀ t v, bI az t = some v -> bY J s.aL ρ fs v (bF t)) ->
  (∀ ar a7 H' G' cS e1 yJ, S (k ar yJ) -> iq e1 yJ -> cl J b F fs ar a7 H' G' cS -> ρ <+: cS -> Fr s ar -> Q a7 H' e1) -> Op ad b ops bF σ H wr Q
 | [], az, bF, s, σ, H, G, ρ, wr, n2, h, hl, R, b7, dq => fZ (dq _ _ _ _ _ _ _ h hl.rev R eY .rfl)
 | ⟨d, op, g⟩ :: r, az, bF, s, σ, H, G, ρ, wr, n2, h, hl, R, b7, dq => by
   have fin : ∀ {s1 : bH J} {H1 : Heap} {ax : Nat -> List (Nat × cE)} {jv : List V} {v : aN J.ay} {w : V} {m NR : Bool}, (m = true -> NR = true) -> cl J b F fs s1 σ H1 ax jv -> bY J s1.aL jv fs v w -> ρ <+: jv -> Fr s s1 ->
     S (match put az s1 v d with | (az, s) => so cr r az s (NR :: n2) k) -> Op ad b r (gL bF d w) (gM σ d w) H1 (m :: wr) Q := by
    intro s1 H1 ax jv v w m NR hm bM af aM eT h1
    have rP : ∀ t v, bI az t = some v -> bY J s1.aL jv fs v (bF t) := fun t v q => (b7 t v q).mono eT.aL aM
    match d with
    | none => exact A6 bm aJ hT ae h1 (.cons hm hl) bM rP fun ar a7 H' G' cS e1 yJ al a0 a2 a3 a4 => dq _ _ _ _ _ _ _ al a0 a2 (aM.trans a3) (eT.trans a4)
    | some (t, false) => exact A6 bm aJ hT ae h1 (.cons hm hl) bM (V8 rP af) fun ar a7 H' G' cS e1 yJ al a0 a2 a3 a4 => dq _ _ _ _ _ _ _ al a0 a2 (aM.trans a3) (eT.trans a4)
    | some (t, true) => exact A6 bm aJ hT ae h1 (.cons hm hl) (bM.put af) rP fun ar a7 H' G' cS e1 yJ al a0 a2 a3 a4 => dq _ _ _ _ _ _ _ al a0 a2 (aM.trans a3) (eT.trans (VX.trans a4))
   have go : ∀ {s1 : bH J}, jf s s1 -> hE bF σ g = some true -> S (oper cr az s1 d (fun v s m => match put az s v d with | (az, s) => so cr r az s (m :: n2) k) op) -> Op ad b (⟨d, op, g⟩ :: r) bF σ H wr Q := by
    intro s1 ai hw h1
    exact zU bm aJ hT ae (R.ei ai) (fun t v q => (b7 t v q).mono ai.aL eY) h1 hw fun v ar w H' G' cS mv NP al a0 a2 a3 a4 a5 => fin a0 a2 a3 a4 (ai.bN.trans a5) al
   have skip : ∀ {s1 : bH J}, jf s s1 -> hE bF σ g = some false -> S (match put az s1 (.ba []) d with | (az, s) => so cr r az s (false :: n2) k) -> Op ad b (⟨d, op, g⟩ :: r) bF σ H wr Q := by
    intro s1 ai hw h1
    exact Mj (o := ⟨d, op, g⟩) hw (fin (fun q => q) (R.ei ai) (.ba .nil) eY ai.bN h1)
   simp only [so] at h
   match g with
   | none => exact go .rfl rfl h
   | some (x, w) =>
     simp only at h
     split at h
     · exact absurd h aJ.bad
     · rename_i v af
       have na := dm R b7 af
       split at h
       · generalize yI : bX bF σ x = uR at na
         cases na with
         | ba eK => cases eK; exact skip .rfl (UR yI) h
       · cases w with
         | true =>
           obtain ⟨β, s1, ah, e2, b5, cU⟩ := A1 aJ h R.ea na
           rcases cU with ⟨rfl, h⟩ | ⟨rfl, h⟩
           · exact go e2 (ib ah rfl) h
           · exact skip e2 (GR ah rfl) h
         | false =>
           obtain ⟨β, s1, ah, e2, b5, cU⟩ := A1 aJ h R.ea na
           rcases cU with ⟨rfl, h⟩ | ⟨rfl, h⟩
           · exact skip e2 (GS ah rfl) h
           · exact go e2 (ib ah rfl) h
end
end Go.Abs.gB
