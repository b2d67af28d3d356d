/- Texts of this claim, joined and written short by a program. -/
import Derived.Test.YtjgngmpmjbkbpaaGreatDoorP32
import Derived.Test.YtjgngmpmjbkbpaaGreatDoorP00
set_option linter.unusedVariables false
set_option linter.unusedSimpArgs false
set_option linter.unusedSectionVars false
namespace Go.Abs.gB
open Go Go.Abs
section
variable {J : hP} {b : Nat} {F : cW} {fs : List V} {s s1 s2 cz : bH J} {σ dV : cb} {H H1 : Heap} {G ax : Nat -> List (Nat × cE)} {ρ jv : List V} {ad : Nat -> Option ca} {cr : pG J} {W W' : List Nat} {M M' : List (Nat × Nat)}
mutual
theorem NS {B : List Bool} : ∀ {v w : aN J.ay} {u : V}, same v w = true -> bY J B ρ fs v u -> bY J B ρ fs w u
 | v, w, u, h, af => by
   unfold same at h
   split at h
   · split at h <;> first | exact af | cases h
   · split at h
     · rename_i e; rw [fl e] at af; exact af
     · rename_i e; rw [fl e] at af; exact af
     · cases h
   · split at h
     · rename_i e
       have e := of_decide_eq_true e
       have e2 := of_decide_eq_true h
       subst e; subst e2; exact af
     · cases h
   · rw [tV _ _ h] at af; exact af
   · split at h
     · rename_i e; rw [fl e, fl h] at af; exact af
     · cases h
   · rw [fl h] at af; exact af
   · split at h
     · rename_i e
       cases af with
       | fn af => rw [fl e]; exact .fn (NT h af)
     · cases h
   · cases af with
     | agg af => exact .agg (NT h af)
   · rw [of_decide_eq_true h] at af; exact af
   · cases h
theorem NT {B : List Bool} : ∀ {vs ws : List (aN J.ay)} {us : List V}, yy vs ws = true -> bp J B ρ fs vs us -> bp J B ρ fs ws us
 | [], [], _, _, h => h
 | [], _ :: _, _, h, _ => by simp [yy] at h
 | _ :: _, [], _, h, _ => by simp [yy] at h
 | v :: vs, w :: ws, _, h, .cons af r => by
   simp only [yy] at h
   split at h
   · rename_i e; exact .cons (NS e af) (NT h r)
   · cases h
end
theorem IB {α : Type} {l fp : List α} (h : l <+: fp) {i : Nat} {a : α} (hi : fp[i]? = some a) (hl : i < l.length) : l[i]? = some a := by
 obtain ⟨t, rfl⟩ := h
 rwa [hq hl] at hi
theorem IC {i n : Nat} (h : Nat.blt i n = true) : i < n := k3 h
mutual
theorem ID {B wv : List Bool} (dC : B <+: wv) (aM : ρ <+: jv) : ∀ {v : aN J.ay} {w : V}, wf B.length ρ.length v = true -> bY J wv jv fs v w -> bY J B ρ fs v w
 | _, _, _, .int => .int
 | _, _, _, .cj => .cj
 | _, _, h, .bo q => .bo (IB dC q (IC (by simpa only [wf] using h)))
 | _, _, _, .str => .str
 | _, _, _, .sl => .sl
 | _, _, _, .k => .k
 | _, _, h, .agg q => .agg (Eu dC aM (by simpa only [wf] using h) q)
 | _, _, h, .ba q => .ba (Eu dC aM (by simpa only [wf] using h) q)
 | _, _, h, .dB q => .dB (Eu dC aM (by simpa only [wf] using h) q)
 | _, _, h, .ptr q => .ptr (IB aM q (IC (by simpa only [wf] using h)))
 | _, _, h, .row q => .row (IB aM q (IC (by simpa only [wf] using h)))
 | _, _, h, .im q => .im (IB aM q (IC (by simpa only [wf] using h)))
 | _, _, h, .fn q => .fn (Eu dC aM (by simpa only [wf] using h) q)
 | _, _, _, .fv q => .fv q
 | _, _, _, .kd => .kd
theorem Eu {B wv : List Bool} (dC : B <+: wv) (aM : ρ <+: jv) : ∀ {vs : List (aN J.ay)} {ws : List V}, yz B.length ρ.length vs = true -> bp J wv jv fs vs ws -> bp J B ρ fs vs ws
 | _, _, _, .nil => .nil
 | _, _, h, .cons q r => by
   simp only [yz] at h
   split at h
   · rename_i e; exact .cons (ID dC aM e q) (Eu dC aM h r)
   · cases h
end
structure hh (W : List Nat) (M : List (Nat × Nat)) (s s1 : bH J) : Prop where
 vs : ∀ t, t ∉ W -> bI s1.vs t = bI s.vs t
 aL : s.aL <+: s1.aL
 aF : s.aF <= s1.aF
 mem : ∀ o w cs, bI s.mem o = some (.cells w cs) -> ∃ cs', bI s1.mem o = some (.cells w cs') /\ cs'.length = cs.length /\ ∀ j : Nat, (o, j) ∉ M -> cs'[j]? = cs[j]?
 row : ∀ o aT, rN aT = false -> bI s.mem o = some aT -> bI s1.mem o = some aT \/ (o, 0) ∈ M
theorem hh.rfl : hh W M s s := ⟨fun _ _ => Eq.refl _, eY, aK _, fun o w cs h => ⟨cs, h, Eq.refl _, fun _ _ => Eq.refl _⟩, fun _ _ _ h => .inl h⟩
theorem hh.trans (h : hh W M s s1) (k : hh W M s1 s2) : hh W M s s2 where
 vs := fun t ht => (k.vs t ht).trans (h.vs t ht)
 aL := h.aL.trans k.aL
 aF := c4 h.aF k.aF
 mem := fun o w cs hm => by
  obtain ⟨n1, h1, h2, av⟩ := h.mem o w cs hm
  obtain ⟨Es, cn, dZ, lx⟩ := k.mem o w n1 h1
  exact ⟨Es, cn, dZ.trans h2, fun j hj => (lx j hj).trans (av j hj)⟩
 row := fun o aT hc hm => (h.row o aT hc hm).elim (k.row o aT hc) .inr
theorem hh.wide (h : hh W M s s1) (hW : ∀ t ∈ W, t ∈ W') (k2 : ∀ p ∈ M, p ∈ M') : hh W' M' s s1 where
 vs := fun t ht => h.vs t fun q => ht (hW t q)
 aL := h.aL
 aF := h.aF
 mem := fun o w cs hm => by
  obtain ⟨n1, h1, h2, av⟩ := h.mem o w cs hm
  exact ⟨n1, h1, h2, fun j hj => av j fun q => hj (k2 _ q)⟩
 row := fun o aT hc hm => (h.row o aT hc hm).imp id (k2 _)
theorem Fr.gp (h : Fr s s1) (lt : ∀ e ∈ s.mem, e.1 < s.aF) (hW : ∀ t ∈ s1.dA, t ∈ W) (k2 : ∀ o j, (o, j) ∈ s1.cZ -> o < s.aF -> (o, j) ∈ M) : hh W M s s1 where
 vs := fun t ht => h.vs t fun q => ht (hW t q)
 aL := h.aL
 aF := h.aF
 mem := fun o w cs hm => by
  obtain ⟨n1, h1, h2, av⟩ := h.mem o w cs hm
  exact ⟨n1, h1, h2, fun j hj => av j fun q => hj (k2 _ _ q (lt _ (ky hm)))⟩
 row := fun o aT hc hm => (h.row o aT hc hm).imp id fun q => k2 _ _ q (lt _ (ky hm))
theorem Ev {α : Type} {l : List (Nat × α)} {o : Nat} {c : α} (h : bI l o = some c) : o ∈ l.map Prod.fst := ey.2 ⟨_, ky h, rfl⟩
theorem NU : ∀ {l : List Nat}, D9 W l = true -> ∀ t ∈ l, t ∈ W
 | [], _, _, h => by cases h
 | a :: l, h, t, ht => by
   simp only [D9] at h
   split at h
   · rename_i e
     rcases dS.1 ht with rfl | ht
     · exact (mem_iff _ _).1 e
     · exact NU h t ht
   · cases h
theorem yK {o j : Nat} : ∀ {l : List (Nat × Nat)}, pH o j l = true ↔ (o, j) ∈ l
 | [] => by simp [pH]
 | (a, c) :: r => by
   have ih := yK (o := o) (j := j) (l := r)
   have ne : ∀ {x y : Nat}, Nat.beq x y = false -> ¬ y = x := fun h e => by rw [e, zt] at h; cases h
   unfold pH
   rw [dS, bw]
   cases h1 : Nat.beq a o <;> cases h2 : Nat.beq c j
   · simp [ne h1, ih]
   · simp [ne h1, ih]
   · simp [ne h2, ih]
   · simp [fl h1, fl h2]
theorem NV {n : Nat} : ∀ {l : List (Nat × Nat)}, Ea n M l = true -> ∀ o j, (o, j) ∈ l -> o < n -> (o, j) ∈ M
 | [], _, _, _, h, _ => by cases h
 | (a, c) :: l, h, o, j, hm, hn => by
   simp only [Ea] at h
   split at h
   · rename_i e
     rcases dS.1 hm with q | hm
     · cases q
       have := k3 e
       omega
     · exact NV h o j hm hn
   · split at h
     · rename_i e
       rcases dS.1 hm with q | hm
       · cases q; exact yK.1 e
       · exact NV h o j hm hn
     · cases h
theorem _root_.Go.Abs.Own.pick {H : Heap} {ids l : List Nat} {G : Nat -> List (Nat × cE)} {F : cW} (h : Own H (ids.map G ++ F)) (hn : l.Nodup) (hs : ∀ o ∈ l, o ∈ ids) : Own H (l.map G ++ F) := by
 have at_ : ∀ {o : Nat}, o ∈ ids -> ∃ k : Nat, k < ids.length /\ ids[k]? = some o /\ (ids.map G ++ F)[k]? = some (G o) := fun {o} ho => by
  obtain ⟨k, ai⟩ := nu.1 ho
  have aH := (fy.1 ai).1
  exact ⟨k, aH, ai, by rw [hq (by simpa using aH), kh, ai]; rfl⟩
 refine ⟨fun m hm p hp => ?_, ?_⟩
 · rcases jV.1 hm with hm | hm
   · obtain ⟨o, ho, rfl⟩ := ey.1 hm
     exact h.1 _ (wX _ (r2 (hs o ho))) p hp
   · exact h.1 _ (pW _ hm) p hp
 · rw [oY, PD]
   refine ⟨?_, ?_, ?_⟩
   · rw [qR, List.pairwise_map]
     refine List.Pairwise.imp_of_mem ?_ hn
     intro i j hi hj cT a ao gF
     obtain ⟨aiS, _, q1, aS⟩ := at_ (hs i hi)
     obtain ⟨V9, _, bZ, cR⟩ := at_ (hs j hj)
     obtain ⟨p, hp, rfl⟩ := ey.1 ao
     obtain ⟨q, bD, e⟩ := ey.1 gF
     exact h.GU aS cR (fun e => cT (by rw [e, bZ] at q1; cases q1; rfl)) hp bD e.symm
   · have := h.2
     rw [oY, PD] at this
     exact this.2.1
   · intro x hx y hy a ao gF
     obtain ⟨m, hm, rfl⟩ := ey.1 hx
     obtain ⟨o, ho, rfl⟩ := ey.1 hm
     obtain ⟨m', mg, rfl⟩ := ey.1 hy
     obtain ⟨aiS, aH, _, aS⟩ := at_ (hs o ho)
     obtain ⟨V9, hj⟩ := nu.1 mg
     have cR : (ids.map G ++ F)[ids.length + V9]? = some m' := by rw [wW (by simp)]; simpa using hj
     obtain ⟨p, hp, rfl⟩ := ey.1 ao
     obtain ⟨q, bD, e⟩ := ey.1 gF
     exact h.GU aS cR (by omega) hp bD e.symm
theorem _root_.Go.Abs.Own.aiT {H : Heap} {ids : List Nat} {l : List (Option Nat)} {G : Nat -> List (Nat × cE)} {F : cW} (h : Own H (ids.map G ++ F)) (hn : (l.filterMap id).Nodup) (hs : ∀ o ∈ l.filterMap id, o ∈ ids) : Own H ((l.map fun x => x.elim [] G) ++ F) := by
 have nl : ∀ {pre X : cW}, Own H (pre ++ X) -> Own H (pre ++ [] :: X) := fun {pre X} h => by
  refine ⟨fun m hm p hp => ?_, ?_⟩
  · rcases jV.1 hm with q | q
    · exact h.1 m (wX _ q) p hp
    · rcases dS.1 q with rfl | q
      · cases hp
      · exact h.1 m (pW _ q) p hp
  · have := h.2
    rw [oY, PD] at this
    rw [oY, PD, eD, Fc]
    refine ⟨this.1, ⟨fun _ _ a ao => by simp at ao, this.2.1⟩, fun x hx y hy a ao => ?_⟩
    rcases dS.1 hy with rfl | hy
    · simp
    · exact this.2.2 x hx y hy a ao
 have key : ∀ (l : List (Option Nat)) (pre : cW), Own H (pre ++ ((l.filterMap id).map G ++ F)) -> Own H (pre ++ ((l.map fun x => x.elim [] G) ++ F)) := by
  intro l
  induction l with
  | nil => exact fun _ h => h
  | cons x l ih =>
    intro pre h
    cases x with
    | none => exact nl (ih pre h)
    | some o =>
      have := ih (pre ++ [G o]) (by simpa using h)
      simpa using this
 exact key l [] (h.pick hn hs)
theorem yL : ∀ l : List (Nat × cP J), ((pJ M l).map Prod.fst).Sublist (l.map Prod.fst)
 | [] => r3 _
 | (o, c) :: r => by
   simp only [pJ]
   split
   · exact (yL r).cons_cons _
   · split
     · exact (yL r).cons _
     · exact (yL r).cons_cons _
theorem IE {o : Nat} {w : Bool} {cs : List (aN J.ay)} : ∀ {l : List (Nat × cP J)}, bI l o = some (.cells w cs) -> bI (pJ M l) o = some (.cells w (qF o M 0 cs))
 | (a, c) :: r, h => by
   rw [gd] at h
   simp only [pJ]
   split at h
   · rename_i e
     cases h
     subst e
     simp only [gd, if_pos]
   · rename_i e
     split
     · rw [gd, if_neg e]; exact IE h
     · split
       · exact IE h
       · rw [gd, if_neg e]; exact IE h
theorem IG {o : Nat} {aT : cP J} (hc : rN aT = false) (k2 : (o, 0) ∉ M) : ∀ {l : List (Nat × cP J)}, bI l o = some aT -> bI (pJ M l) o = some aT
 | (a, c) :: r, h => by
   rw [gd] at h
   simp only [pJ]
   split at h
   · rename_i e
     cases h
     subst e
     have : pH a 0 M = false := by
      cases e : pH a 0 M with
      | false => rfl
      | true => exact absurd (yK.1 e) k2
     cases aT with
     | cells => cases hc
     | _ => simp only [this, gd, if_pos]
   · rename_i e
     split
     · rw [gd, if_neg e]; exact IG hc k2 h
     · split
       · exact IG hc k2 h
       · rw [gd, if_neg e]; exact IG hc k2 h
theorem yM {o : Nat} {c' : cP J} : ∀ {l : List (Nat × cP J)}, (o, c') ∈ pJ M l -> (∃ w cs, (o, .cells w cs) ∈ l /\ c' = .cells w (qF o M 0 cs)) \/ ((o, c') ∈ l /\ rN c' = false /\ (o, 0) ∉ M)
 | (a, c) :: r, h => by
   have up : ((∃ w cs, (o, .cells w cs) ∈ r /\ c' = .cells w (qF o M 0 cs)) \/ ((o, c') ∈ r /\ rN c' = false /\ (o, 0) ∉ M)) -> (∃ w cs, (o, .cells w cs) ∈ (a, c) :: r /\ c' = .cells w (qF o M 0 cs)) \/ ((o, c') ∈ (a, c) :: r /\ rN c' = false /\ (o, 0) ∉ M) :=
    Or.imp (fun ⟨w, cs, h1, h2⟩ => ⟨w, cs, k5 _ h1, h2⟩) fun ⟨h1, h2⟩ => ⟨k5 _ h1, h2⟩
   simp only [pJ] at h
   split at h
   · rcases dS.1 h with e | h
     · cases e; exact .inl ⟨_, _, qN .., rfl⟩
     · exact up (yM h)
   · rename_i hc
     split at h
     · exact up (yM h)
     · rename_i e2
       rcases dS.1 h with e | h
       · cases e
         refine .inr ⟨qN .., ?_, fun q => by rw [yK.2 q] at e2; cases e2⟩
         cases c' with
         | cells w cs => exact absurd rfl (hc w cs)
         | _ => rfl
       · exact up (yM h)
theorem Wa {o : Nat} : ∀ (cs : List (aN J.ay)) (i : Nat), (qF o M i cs).length = cs.length
 | [], _ => rfl
 | c :: r, i => by simp [qF, Wa r]
theorem Wb {o : Nat} : ∀ (cs : List (aN J.ay)) (i j : Nat), (o, i + j) ∉ M -> (qF o M i cs)[j]? = cs[j]?
 | [], _, _, _ => rfl
 | c :: r, i, 0, h => by
   have : pH o i M = false := by
    cases e : pH o i M with
    | false => rfl
    | true => exact absurd (yK.1 e) h
   simp [qF, this]
 | c :: r, i, j + 1, h => by
   simp only [qF, Y7]
   exact Wb r (i + 1) j (by rwa [Fb, p4])
theorem NW {t : Nat} : ∀ (l : List Nat) (r : List (Nat × aN J.ay)), bI ((l.map fun t => (t, aN.kd)) ++ r) t = if t ∈ l then some .kd else bI r t
 | [], r => by simp
 | a :: l, r => by
   rw [eD, oX, gd, NW l r]
   by_cases e : a = t
   · subst e; simp
   · simp [e, ki e]
theorem Wc : hh W M s (blank W M s) where
 vs := fun t ht => by unfold blank; simp only; rw [NW, if_neg ht]
 aL := eY
 aF := aK _
 mem := fun o w cs hm => ⟨_, IE hm, Wa _ _, fun j hj => Wb _ _ _ (by rwa [eF])⟩
 row := fun o aT hc hm => (Decidable.em ((o, 0) ∈ M)).elim .inr fun q => .inl (IG hc q hm)
theorem Wd {o : Nat} {B wv : List Bool} (dC : B <+: wv) (aM : ρ <+: jv) : ∀ {cs n1 : List (aN J.ay)} {We ws : List V} (i : Nat), bp J B ρ fs cs We -> bp J wv jv fs n1 ws -> n1.length = cs.length -> (∀ j : Nat, (o, i + j) ∉ M -> n1[j]? = cs[j]?) -> bp J B ρ fs (qF o M i cs) ws
 | _, _, _, _, i, .nil, .nil, _, _ => .nil
 | _, _, _, _, i, .nil, .cons _ _, hl, _ => by cases hl
 | _, _, _, _, i, .cons _ _, .nil, hl, _ => by cases hl
 | c :: cs, dL :: n1, _, _, i, .cons h r, .cons h1 bG, hl, hj => by
   refine .cons ?_ (Wd dC aM (i + 1) r bG (by simpa using hl) fun j q => by
    have := hj (j + 1) (by rwa [Fb, p4] at q)
    simpa using this)
   split
   · exact .kd
   · rename_i e
     have : (o, i) ∉ M := fun q => by rw [yK.2 q] at e; cases e
     have := hj 0 (by rwa [zr])
     simp only [pV, aA] at this
     subst this
     exact h.back dC aM h1
theorem Wf (R : cl J b F fs s σ H G ρ) (bM : cl J b F fs s1 dV H1 ax jv) (aM : ρ <+: jv) (gp : hh W M s s1) : cl J b F fs (blank W M s) dV H1 ax ρ where
 aF := R.aF
 vs := fun t v h => by
  have h : bI ((W.map fun t => (t, aN.kd)) ++ s.vs) t = some v := h
  rw [NW] at h
  split at h
  · cases h; exact .kd
  · rename_i e
    have h1 := h
    rw [<- gp.vs t e] at h1
    exact (R.vs t v h).back gp.aL aM (bM.vs t v h1)
 own := by
  have ah : ∀ l : List (Nat × cP J), l.map (fun e => ax e.1) = (l.map Prod.fst).map ax := fun l => by rw [qR]; rfl
  have := bM.own
  unfold eX at this ⊢
  rw [ah] at this ⊢
  refine this.pick (R.dE.sublist (yL _)) fun o ho => ?_
  obtain ⟨⟨o', c⟩, he, rfl⟩ := ey.1 ho
  rcases yM he with ⟨w, cs, h1, -⟩ | ⟨h1, hc, h2⟩
  · obtain ⟨cs', av, -⟩ := gp.mem _ _ _ (uT R.dE h1)
    exact Ev av
  · exact Ev ((gp.row _ _ hc (uT R.dE h1)).resolve_right h2)
 dE := R.dE.sublist (yL _)
 lt := fun e he => by
  have := (yL (M := M) s.mem).subset (r2 (f := Prod.fst) he)
  obtain ⟨e', h1, h2⟩ := ey.1 this
  rw [<- h2]; exact R.lt e' h1
 mem := fun o aT h => by
  have h : bI (pJ M s.mem) o = some aT := h
  rcases yM (ky h) with ⟨w, cs, hm, rfl⟩ | ⟨hm, hc, k2⟩
  · have hm := uT R.dE hm
    obtain ⟨n1, h1, h2, av⟩ := gp.mem o w cs hm
    obtain ⟨a0, We, p1, p2, p3, lu⟩ := R.mem o _ hm
    obtain ⟨a, ws, q1, aS, bZ, cR⟩ := bM.mem o _ h1
    have := mw aM p1
    rw [q1] at this
    cases this
    exact ⟨_, ws, p1, aS, Wd gp.aL aM 0 p3 bZ h2 (fun j hj => av j (by rwa [eF] at hj)), cR⟩
  · have hm := uT R.dE hm
    have h0 := R.mem o _ hm
    have h1 := bM.mem o _ ((gp.row o aT hc hm).resolve_right k2)
    cases aT with
    | cells => cases hc
    | row t x =>
      obtain ⟨v0, p1, p2⟩ := h0
      obtain ⟨v, q1, aS⟩ := h1
      have := mw aM p1
      rw [q1] at this
      cases this
      exact ⟨_, p1, aS⟩
    | mp k w x =>
      obtain ⟨v0, p1, p2⟩ := h0
      obtain ⟨v, q1, aS⟩ := h1
      have := mw aM p1
      rw [q1] at this
      cases this
      exact ⟨_, p1, aS⟩
 ea := R.ea
def NX (σ : cb) (G : Nat -> List (Nat × cE)) : Loc -> V -> Prop
 | .s t, w => w = σ t
 | .m o j, w => ∃ a ws, G o = [(a, .cells ws)] /\ ws[j]? = some w
theorem yN (R : cl J b F fs s σ H G ρ) {l : Loc} {v : aN J.ay} (h : at_ s l = some v) : ∃ w, NX σ G l w /\ bY J s.aL ρ fs v w := by
 cases l with
 | s t => exact ⟨_, rfl, R.vs t v h⟩
 | m o j =>
   simp only [at_] at h
   split at h
   · rename_i wr cs hm
     obtain ⟨a, ws, q1, aS, bZ, cR⟩ := R.mem o _ hm
     rw [uO] at h
     obtain ⟨w, ah, e2⟩ := bZ.get h
     exact ⟨w, ⟨a, ws, aS, ah⟩, e2⟩
   · cases h
theorem Gm {α : Type} {l : List α} {j : Nat} {a : α} (h : l[j]? = some a) : l.set j a = l := by
 apply zn
 intro i
 by_cases e : j = i
 · subst e; rw [tc (fy.1 h).1, h]
 · rw [k4 e]
def Wg (s : bH J) (σ : cb) (G : Nat -> List (Nat × cE)) : Loc -> V -> Prop
 | .s t, w => w = σ t
 | .m o j, w => ∀ wr cs, bI s.mem o = some (.cells wr cs) -> ∃ a ws, G o = [(a, .cells ws)] /\ ws[j]? = some w
theorem A7 (R : cl J b F fs s σ H G ρ) {l : Loc} {v : aN J.ay} {w : V} (hw : Wg s σ G l w) (af : bY J s.aL ρ fs v w) : cl J b F fs (jR s l v) σ H G ρ := by
 cases l with
 | s t =>
   cases hw
   refine ⟨R.aF, fun k u h => ?_, R.own, R.dE, R.lt, R.mem, R.ea⟩
   have h : bI ((t, v) :: s.vs) k = some u := h
   rw [gd] at h
   split at h
   · rename_i e; cases h; subst e; exact af
   · exact R.vs k u h
 | m o j =>
   simp only [jR]
   split
   · rename_i wr cs hm
     obtain ⟨a, ws, ah, e2⟩ := hw wr cs hm
     refine ⟨R.aF, R.vs, ?_, ?_, fun e he => ?_, fun q aT h => ?_, R.ea⟩
     · have := R.own
       unfold eX at this ⊢
       have ah : ∀ l : List (Nat × cP J), l.map (fun e => G e.1) = (l.map Prod.fst).map G := fun l => by rw [qR]; rfl
       simp only
       rw [ah, wu, <- ah]; exact this
     · simp only [wu]; exact R.dE
     · have : e.1 ∈ (k1 o (.cells wr (cs.set j v)) s.mem).map Prod.fst := r2 he
       rw [wu] at this
       obtain ⟨e', h1, h2⟩ := ey.1 this
       rw [<- h2]; exact R.lt e' h1
     · simp only [sW] at h
       split at h
       · rename_i e; subst e
         rw [hm] at h
         cases h
         obtain ⟨bf, fb, q1, aS, bZ, cR⟩ := R.mem q _ hm
         rw [aS] at ah
         cases ah
         refine ⟨_, _, q1, aS, ?_, cR⟩
         have := bZ.set j af
         rwa [Gm e2] at this
       · exact R.mem q aT h
   · exact R
theorem IH {l : Loc} {v : aN J.ay} : (jR s l v).aL = s.aL := by
 cases l with
 | s t => rfl
 | m o j => simp only [jR]; split <;> rfl
theorem Wh {l : Loc} {v : aN J.ay} : (jR s l v).mem.map Prod.fst = s.mem.map Prod.fst /\ (jR s l v).aF = s.aF := by
 cases l with
 | s t => exact ⟨rfl, rfl⟩
 | m o j => simp only [jR]; split <;> simp [wu]
theorem aiU {l : Loc} {v : aN J.ay} {q : Nat} {w : Bool} {cs : List (aN J.ay)} (h : bI (jR s l v).mem q = some (.cells w cs)) : ∃ cs, bI s.mem q = some (.cells w cs) := by
 cases l with
 | s t => exact ⟨_, h⟩
 | m o j =>
   simp only [jR] at h
   split at h
   · rename_i wr cs' hm
     simp only [sW] at h
     split at h
     · rename_i e; subst e; rw [hm] at h ⊢; cases h; exact ⟨_, rfl⟩
     · exact ⟨_, h⟩
   · exact ⟨_, h⟩
theorem Wi (bm : gC J) {c : Nat} {y : J.ay c} {aT : cP J} {v : aN J.ay} {w : V} (h : Ij c v = some y) (af : bY J [] [] [] v w) (h' : rowAt c y = some aT) : ∃ e5 y', aT = .row e5 y' /\ w = bP (J.es e5) (J.enc e5) y' := by
 unfold Ij at h
 split at h
 · cases h
 · rename_i hn
   unfold rowAt at h'
   split at h'
   · rename_i p hp; rw [hn] at hp; cases hp
   · split at h'
     · rename_i e5 y' hs
       cases h'
       refine ⟨e5, y', rfl, ?_⟩
       have ah := bm.iH c _ _ _ _ _ y af h
       have e2 := bm.lD c y [] [] []
       rw [qQ, hs] at e2
       rw [ah]
       generalize J.enc c y = u at e2
       cases e2; rfl
     · cases h'
theorem aiV {A B : Type} (h : A = B) (x : B) : (h ▸ (h.symm ▸ x : A) : B) = x := by subst h; rfl
theorem aiW {c eh jd : Nat} {x : List (J.ay eh × J.ay jd)} {y : J.ay c} (h : Nx c eh jd x = some y) : rowAt c y = some (.mp eh jd x) := by
 unfold Nx at h
 split at h
 · cases h
 · rename_i p hp
   split at h
   · rename_i e
     subst e
     cases h
     unfold rowAt
     split
     · rename_i B6 oo
       rw [hp] at oo
       cases oo
       congr 2
       exact aiV _ _
     · rename_i hn; rw [hp] at hn; cases hn
   · cases h
theorem aiX {α β : Type} {es bC : Nat} {f : α -> V} {k7 : β -> V} {x : ak α} {x' : ak β} {v : V} {m : List (Nat × cE)} (h : bP es f x = bP bC k7 x') (hr : ku b es f v x m) : ku b bC k7 v x' m := by
 unfold ku at hr ⊢
 cases x with
 | nil => cases x' <;> cases h; cases hr; exact .nil
 | emp => cases x' <;> cases h; cases hr; exact .emp
 | mk l => cases x' with
   | mk fp =>
     simp only [bP, V.list.injEq] at h
     obtain ⟨rfl, h⟩ := h
     simp only [ak.map, h] at hr
     exact hr
   | nil => cases h
   | emp => cases h
theorem aiY {α : Type} {es : Nat} {f : α -> V} {x : ak α} {v : aN J.ay} {w : V} {c : aN J.ay} (hn : wk v = some c) (af : bY J [] [] [] c w) (h : w = bP es f x) : ku b es f w x [] := by
 unfold wk at hn
 split at hn <;> cases hn <;> cases af <;> cases x <;> cases h <;> first | exact .nil | exact .emp
theorem aiZ {B : List Bool} {v c : aN J.ay} {w : V} (hn : wk v = some c) (af : bY J B ρ fs v w) : bY J [] [] [] c w := by
 unfold wk at hn
 split at hn <;> cases hn <;> cases af <;> exact .k
structure Fit (ax : Nat -> List (Nat × cE)) (s1 cz : bH J) (m : Nat) (M : List (Nat × Nat)) (u : List Nat) (f : Nat -> Option Nat) : Prop where
 ids : ∀ o ∈ (cz.mem.map Prod.fst).filterMap f, o ∈ s1.mem.map Prod.fst
 dE : ((cz.mem.map Prod.fst).filterMap f).Nodup
 cells : ∀ q w cs, bI cz.mem q = some (.cells w cs) -> f q = some q
 row : ∀ o aT, rN aT = false -> bI s1.mem o = some aT -> mem o u = false -> (m <= o \/ (o, 0) ∈ M) -> o ∉ (cz.mem.map Prod.fst).filterMap f
theorem Fit.jR {m : Nat} {u : List Nat} {f : Nat -> Option Nat} (h : Fit ax s1 cz m M u f) {B : List Bool} {l : Loc} {v : aN J.ay} : Fit ax s1 (jR { cz with aL := B } l v) m M u f := by
 have e := (Wh (s := { cz with aL := B }) (l := l) (v := v)).1
 refine ⟨by rw [e]; exact h.ids, by rw [e]; exact h.dE, fun q w cs bD => ?_, by rw [e]; exact h.row⟩
 obtain ⟨cs', h1⟩ := aiU bD
 exact h.cells q w cs' h1
theorem NY {m : Nat} {u : List Nat} {f : Nat -> Option Nat} (h : Fit ax s1 cz m M u f) {l : Loc} {w : V} (hw : NX dV ax l w) : Wg cz dV (fun q => (f q).elim [] ax) l w := by
 cases l with
 | s t => exact hw
 | m o j =>
   intro wr cs hm
   show ∃ a ws, (f o).elim [] ax = [(a, cE.cells ws)] /\ ws[j]? = some w
   rw [h.cells o wr cs hm]; exact hw
theorem Wj {α β : Type} {f g : α -> Option β} : ∀ {l : List α}, (∀ a ∈ l, f a = g a) -> l.filterMap f = l.filterMap g
 | [], _ => rfl
 | a :: l, h => by rw [JJ, JJ, h a (qN ..), Wj fun b hb => h b (k5 _ hb)]
theorem Fit.add {m : Nat} {u u' : List Nat} {f : Nat -> Option Nat} (h : Fit ax s1 cz m M u f) (bM : cl J b F fs s1 dV H1 ax jv) {rQ : List V} (R : cl J b F fs cz dV H1 (fun q => (f q).elim [] ax) rQ) {aT : cP J} {v : V} {l : Loc} (x : Option Nat)
  (hx : ∀ o, x = some o -> o ∈ s1.mem.map Prod.fst /\ o ∉ (cz.mem.map Prod.fst).filterMap f /\ mem o u' = true) (hu : ∀ o, mem o u' = false -> mem o u = false) (hc : rN aT = false) (hr : ∀ B cS, cS[cz.aF]? = some v -> pK J b B cS fs cz.aF (x.elim [] ax) aT) (hw : NX dV ax l v) :
  ∃ k7 : Nat -> Option Nat, Fit ax s1 (gB.jR (ke cz aT) l (.row cz.aF)) m M u' k7 /\ cl J b F fs (gB.jR (ke cz aT) l (.row cz.aF)) dV H1 (fun q => (k7 q).elim [] ax) (rQ ++ [v]) := by
 refine ⟨fun q => if q = cz.aF then x else f q, ?_⟩
 have bA : ∀ q ∈ cz.mem.map Prod.fst, ¬ q = cz.aF := fun q bD e => by
  obtain ⟨p, hp, e'⟩ := ey.1 bD
  exact absurd (R.lt p hp) (by rw [e', e]; exact Nat.lt_irrefl _)
 have A3 : (ke cz aT).mem.map Prod.fst = cz.aF :: cz.mem.map Prod.fst := rfl
 have em : (cz.aF :: cz.mem.map Prod.fst).filterMap (fun q => if q = cz.aF then x else f q) = x.toList ++ (cz.mem.map Prod.fst).filterMap f := by
  have : (cz.mem.map Prod.fst).filterMap (fun q => if q = cz.aF then x else f q) = (cz.mem.map Prod.fst).filterMap f := Wj fun q bD => if_neg (bA q bD)
  rw [JJ, if_pos rfl, this]
  cases x <;> rfl
 have II : Fit ax s1 (ke cz aT) m M u' (fun q => if q = cz.aF then x else f q) := by
  refine ⟨?_, ?_, fun q w cs bD => ?_, ?_⟩
  · rw [A3, em]
    intro o ho
    rcases jV.1 ho with q | q
    · exact (hx o (by simpa using q)).1
    · exact h.ids o q
  · rw [A3, em, Fe]
    exact ⟨by cases x <;> simp, h.dE, fun a ao c hc e => by subst e; exact (hx a (by simpa using ao)).2.1 hc⟩
  · have bD : bI ((cz.aF, aT) :: cz.mem) q = some (.cells w cs) := bD
    rw [gd] at bD
    split at bD
    · cases bD; cases hc
    · rename_i e; rw [if_neg (ki e)]; exact h.cells q w cs bD
  · rw [A3, em]
    intro o ai0 h0 h1 h2 av bc
    rcases jV.1 bc with q | q
    · rw [(hx o (by simpa using q)).2.2] at h2; cases h2
    · exact h.row o ai0 h0 h1 (hu o h2) av q
 have Aa : (fun q => if q = cz.aF then x.elim [] ax else (f q).elim [] ax) = fun q => (if q = cz.aF then x else f q).elim [] ax := by
  funext q; split <;> rfl
 have aD : Own H1 (x.elim [] ax :: eX cz (fun q => (f q).elim [] ax) F) := by
  have ah : ∀ l : List (Nat × cP J), l.map (fun e => ax e.1) = (l.map Prod.fst).map ax := fun l => by rw [qR]; rfl
  have h1 := bM.own
  unfold eX at h1 ⊢
  rw [ah] at h1
  have h2 := h1.aiT (l := x :: (cz.mem.map Prod.fst).map f) (by
   rw [JJ, List.filterMap_map]
   have := II.dE
   rw [A3, em] at this
   cases x <;> exact this) (by
   have := II.ids
   rw [A3, em] at this
   rw [JJ, List.filterMap_map]
   cases x <;> exact this)
  simpa [Function.comp_def] using h2
 have eC := R.add aD (aT := aT) (v := v) (hr _ _ (R.new v))
 rw [Aa] at eC
 have fV := II.jR (B := (ke cz aT).aL) (l := l) (v := .row cz.aF)
 exact ⟨fV, A7 eC (NY II hw) (.row (R.new v))⟩
theorem wx (bm : gC J) (bM : cl J b F fs s1 dV H1 ax jv) (aM : ρ <+: jv) {B : List Bool} (np : B <+: s1.aL) : ∀ {sh : ni J} {u : List Nat} {x : dk J (hQ sh)} {cz : bH J} {f : Nat -> Option Nat} {rQ : List V}, cl J b F fs cz dV H1 (fun q => (f q).elim [] ax) rQ -> B <+: cz.aL -> ρ <+: rQ -> Fit ax s1 cz ρ.length M u f ->
   nj B.length ρ.length M s1 u sh = some x -> ∃ G' cS, cl J b F fs (pI sh x cz) dV H1 G' cS /\ ρ <+: cS
 | [], u, _, cz, f, rQ, R, _, pM, _, _ => ⟨_, _, R, pM⟩
 | (l, .p t) :: r, u, x, cz, f, rQ, R, dC, pM, dX, h => by
   simp only [nj] at h
   split at h
   · cases h
   · rename_i v af
     split at h
     · cases h
     · rename_i y hy
       split at h
       · cases h
       · rename_i z aP
         cases h
         obtain ⟨w, aC, bB⟩ := yN bM af
         have := bm.iH _ _ _ _ _ _ _ bB hy
         subst this
         simp only [pI, El, Em]
         refine wx bm bM aM np (A7 (R.ei (Iu _)) (NY (cz := { cz with aL := cz.aL ++ J.we t y }) ⟨dX.ids, dX.dE, dX.cells, dX.row⟩ aC) (bm.lD t y cz.aL rQ fs)) ?_ pM dX.jR aP
         rw [IH]
         exact dC.trans (iL _ _)
 | (l, .c v) :: r, u, x, cz, f, rQ, R, dC, pM, dX, h => by
   simp only [nj] at h
   cases hu : at_ s1 l with
   | none => rw [hu] at h; cases h
   | some u =>
     rw [hu] at h
     cases ah : same u v <;> cases e2 : wf B.length ρ.length v <;> simp only [ah, e2] at h
     · cases h
     · cases h
     · cases h
     · obtain ⟨w, aC, bB⟩ := yN bM hu
       have := ID np aM e2 (NS ah bB)
       simp only [pI]
       exact wx bm bM aM np (A7 R (NY dX aC) (this.mono dC pM)) (by rw [IH]; exact dC) pM (dX.jR (B := cz.aL)) h
 | (_, .d) :: r, u, x, cz, f, rQ, R, dC, pM, dX, h => by
   exact wx (sh := r) (x := x) bm bM aM np R dC pM dX (by simp only [nj] at h; exact h)
 | (l, .r c) :: r, u, x, cz, f, rQ, R, dC, pM, dX, h => by
   simp only [nj] at h
   split at h
   · cases h
   · rename_i v af
     obtain ⟨w, aC, bB⟩ := yN bM af
     split at h
     · rename_i o
       have key : ∀ {e3 : cP J} {y : J.ay c} {z : dk J (hQ r)}, bI s1.mem o = some e3 -> rN e3 = false -> gB.mem o u = false -> (match Nat.ble ρ.length o with | true => true | false => pH o 0 M) = true -> nj B.length ρ.length M s1 (o :: u) r = some z ->
         (∀ aT, rowAt c y = some aT -> rN aT = false /\ ∀ B cS, cS[cz.aF]? = some w -> pK J b B cS fs cz.aF (ax o) aT) -> ∃ G' cS, cl J b F fs (pI ((l, .r c) :: r) (wh (hQ r) y z) cz) dV H1 G' cS /\ ρ <+: cS := by
        intro e3 y z hm h0 hu hc aP eS
        have hc : ρ.length <= o \/ (o, 0) ∈ M := by
         split at hc
         · rename_i e; exact .inl (k3 e)
         · exact .inr (yK.1 hc)
        have mL : ∀ o', gB.mem o' (o :: u) = false -> gB.mem o' u = false := fun o' q => by
         simp only [gB.mem] at q
         split at q
         · cases q
         · exact q
        simp only [pI, El, Em]
        split
        · rename_i aT BZ
          obtain ⟨cn, dZ⟩ := eS aT BZ
          obtain ⟨k7, f1, f2⟩ := dX.add bM R (u' := o :: u) (some o) (fun o' e => by
           cases e
           exact ⟨Ev hm, dX.row o e3 h0 hm hu hc, by simp [gB.mem]⟩) mL cn dZ aC
          exact wx bm bM aM np f2 (by rw [IH]; exact dC) (pM.trans (iL _ _)) f1 aP
        · exact wx bm bM aM np R dC pM ⟨dX.ids, dX.dE, dX.cells, fun o' aT a0 al a2 a3 => dX.row o' aT a0 al (mL o' a2) a3⟩ aP
       split at h
       · rename_i t kd hm hu hc
         split at h
         · cases h
         · rename_i y hy
           split at h
           · cases h
           · rename_i z aP
             cases h
             refine key hm rfl hu hc aP fun aT eS => ?_
             obtain ⟨e5, y', rfl, e⟩ := Wi bm hy .sl eS
             obtain ⟨v0, q1, aS⟩ := bM.mem o _ hm
             cases bB with
             | row ho =>
               rw [q1] at ho
               cases ho
               exact ⟨rfl, fun B cS q => ⟨_, q, aiX e aS⟩⟩
       · rename_i eh jd kd hm hu hc
         split at h
         · cases h
         · rename_i y hy
           split at h
           · cases h
           · rename_i z aP
             cases h
             refine key hm rfl hu hc aP fun aT eS => ?_
             rw [aiW hy] at eS
             cases eS
             obtain ⟨a, q1, aS⟩ := bM.mem o _ hm
             cases bB with
             | row ho =>
               rw [q1] at ho
               cases ho
               exact ⟨rfl, fun B cS q => ⟨_, q, aS⟩⟩
       · cases h
     · split at h
       · cases h
       · rename_i arO hn
         split at h
         · cases h
         · rename_i y hy
           split at h
           · cases h
           · rename_i z aP
             cases h
             simp only [pI, El, Em]
             have Wk := aiZ hn bB
             split
             · rename_i aT BZ
               obtain ⟨e5, y', rfl, e⟩ := Wi bm hy Wk BZ
               obtain ⟨k7, f1, f2⟩ := dX.add (aT := .row e5 y') bM R (u' := u) none (fun _ e => by cases e) (fun _ q => q) rfl (fun B cS q => ⟨_, q, aiY hn Wk e⟩) aC
               exact wx bm bM aM np f2 (by rw [IH]; exact dC) (pM.trans (iL _ _)) f1 aP
             · exact wx bm bM aM np R dC pM dX aP
theorem cl.IJ (R : cl J b F fs s σ H G ρ) {dA : List Nat} {cZ : List (Nat × Nat)} : cl J b F fs { s with ea := [], dA := dA, cZ := cZ } σ H G ρ :=
 ⟨R.aF, R.vs, R.own, R.dE, R.lt, R.mem, fun _ _ h => by cases h⟩
theorem IK (bm : gC J) (R : cl J b F fs s σ H G ρ) (bM : cl J b F fs s1 dV H1 ax jv) (aM : ρ <+: jv) {sh : ni J} {x : dk J (hQ sh)} (gp : hh (fq sh ++ W) (M ++ hf sh) s s1) (h : nj s.aL.length s.aF (M ++ hf sh) s1 [] sh = some x) :
  ∃ G' cS, cl J b F fs (enter W M sh x s) dV H1 G' cS /\ ρ <+: cS := by
 have oE := Wf R bM aM gp
 have e : ∀ l : List Nat, l.filterMap some = l := fun l => List.filterMap_some
 obtain ⟨G', cS, bG, ch⟩ := wx bm bM aM gp.aL (f := some) (M := M ++ hf sh) oE eY eY ⟨by
  rw [e]
  intro o ho
  obtain ⟨⟨o', c⟩, he, rfl⟩ := ey.1 ho
  rcases yM he with ⟨w, cs, h1, -⟩ | ⟨h1, hc, h2⟩
  · obtain ⟨cs', av, -⟩ := gp.mem _ _ _ (uT R.dE h1)
    exact Ev av
  · exact Ev ((gp.row _ _ hc (uT R.dE h1)).resolve_right h2), by rw [e]; exact oE.dE, fun _ _ _ _ => rfl, by
  rw [e]
  intro o aT h0 hm _ hc ho
  obtain ⟨⟨o', c⟩, he, rfl⟩ := ey.1 ho
  rcases yM he with ⟨w, cs, h1, -⟩ | ⟨h1, -, h2⟩
  · obtain ⟨cs', av, -⟩ := gp.mem _ _ _ (uT R.dE h1)
    rw [hm] at av; cases av; cases h0
  · rcases hc with hc | hc
    · have := R.lt _ h1
      rw [R.aF] at hc
      exact absurd this (Nat.not_lt.2 hc)
    · exact h2 hc⟩ (by rw [R.aF]; exact h)
 exact ⟨G', cS, bG.IJ, ch⟩
theorem IL {l : Loc} {v : aN J.ay} {B : List Bool} (dC : s.aL <+: B) (hW : ∀ t, l = .s t -> t ∈ W) (k2 : ∀ o j, l = .m o j -> (o, j) ∈ M) : hh W M s (jR { s with aL := B } l v) := by
 cases l with
 | s t =>
   refine ⟨fun k ai => ?_, dC, aK _, fun o w cs h => ⟨cs, h, rfl, fun _ _ => rfl⟩, fun _ _ _ h => .inl h⟩
   show bI ((t, v) :: s.vs) k = _
   rw [gd, if_neg]
   intro e; subst e; exact ai (hW _ rfl)
 | m o j =>
   simp only [jR]
   split
   · rename_i wr cs hm
     have hm : bI s.mem o = some (.cells wr cs) := hm
     refine ⟨fun _ _ => rfl, dC, aK _, fun q w cs' h => ?_, fun q aT hc h => ?_⟩
     · simp only [sW]
       by_cases e : q = o
       · subst e
         rw [h] at hm
         cases hm
         refine ⟨_, by rw [if_pos rfl, h]; rfl, by simp, fun i hi => ?_⟩
         rw [k4]
         intro e; subst e; exact hi (k2 _ _ rfl)
       · exact ⟨cs', by rw [if_neg e]; exact h, rfl, fun _ _ => rfl⟩
     · simp only [sW]
       by_cases e : q = o
       · subst e; rw [h] at hm; cases hm; cases hc
       · rw [if_neg e]; exact .inl h
   · exact ⟨fun _ _ => rfl, dC, aK _, fun o w cs h => ⟨cs, h, rfl, fun _ _ => rfl⟩, fun _ _ _ h => .inl h⟩
theorem ai1 {aT : cP J} (lt : ∀ e ∈ s.mem, e.1 < s.aF) : hh W M s (ke s aT) := by
 have key : ∀ {o : Nat} {c : cP J}, bI s.mem o = some c -> bI (ke s aT).mem o = some c := fun {o c} h => by
  show bI ((s.aF, aT) :: s.mem) o = _
  rw [gd, if_neg (Nat.ne_of_gt (lt _ (ky h)))]; exact h
 exact ⟨fun _ _ => rfl, eY, Fm _, fun o w cs h => ⟨cs, key h, rfl, fun _ _ => rfl⟩, fun _ _ _ h => .inl (key h)⟩
theorem NZ {l : Loc} {v : aN J.ay} {B : List Bool} (lt : ∀ e ∈ s.mem, e.1 < s.aF) : ∀ e ∈ (jR { s with aL := B } l v).mem, e.1 < (jR { s with aL := B } l v).aF := fun e he => by
 have h := r2 (f := Prod.fst) he
 obtain ⟨h1, h2⟩ := Wh (s := { s with aL := B }) (l := l) (v := v)
 rw [h1] at h
 rw [h2]
 obtain ⟨e', q1, aS⟩ := ey.1 h
 rw [<- aS]; exact lt e' q1
theorem A8 : ∀ (sh : ni J) (x : dk J (hQ sh)) (s : bH J), (∀ e ∈ s.mem, e.1 < s.aF) -> (∀ t ∈ fq sh, t ∈ W) -> (∀ p ∈ hf sh, p ∈ M) -> hh W M s (pI sh x s)
 | [], _, _, _, _, _ => .rfl
 | (l, p) :: r, x, s, lt, hW, k2 => by
   have N0 : ∀ t, l = .s t -> t ∈ W := fun t e => hW t (by subst e; exact qN ..)
   have Ew : ∀ t ∈ fq r, t ∈ W := fun t h => hW t (by cases l <;> first | exact k5 _ h | exact h)
   have N1 : ∀ o j, l = .m o j -> (o, j) ∈ M := fun o j e => k2 _ (by subst e; exact qN ..)
   have Ex : ∀ q ∈ hf r, q ∈ M := fun q h => k2 q (by cases l <;> first | exact k5 _ h | exact h)
   cases p with
   | p c => exact (IL (iL _ _) N0 N1).trans (A8 r _ _ (NZ lt) Ew Ex)
   | c v => exact (IL (B := s.aL) eY N0 N1).trans (A8 r _ _ (NZ (B := s.aL) lt) Ew Ex)
   | d => exact A8 r _ _ lt Ew Ex
   | r c =>
     simp only [pI]
     split
     · rename_i aT _
       have ai2 : ∀ e ∈ (ke s aT).mem, e.1 < (ke s aT).aF := fun e he => by
        rcases dS.1 he with rfl | he
        · exact wZ _
        · exact JN (lt e he)
       exact (ai1 lt).trans ((IL (s := ke s aT) (B := s.aL) eY N0 N1).trans (A8 r _ _ (NZ (s := ke s aT) (B := s.aL) ai2) Ew Ex))
     · exact A8 r _ _ lt Ew Ex
theorem Wl (lt : ∀ e ∈ s.mem, e.1 < s.aF) {sh : ni J} {x : dk J (hQ sh)} : hh (fq sh ++ W) (M ++ hf sh) s (enter W M sh x s) := by
 have h := (Wc (s := s) (W := fq sh ++ W) (M := M ++ hf sh)).trans (A8 sh x _ (fun e he => by
  obtain ⟨e', h1, h2⟩ := ey.1 ((yL (M := M ++ hf sh) s.mem).subset (r2 (f := Prod.fst) he))
  rw [<- h2]; exact lt e' h1) (fun t ht => wX _ ht) (fun p hp => pW _ hp))
 exact ⟨h.vs, h.aL, h.aF, h.mem, h.row⟩
theorem Wm (lt : ∀ e ∈ s.mem, e.1 < s.aF) {sh : ni J} {x : dk J (hQ sh)} : Fr s (enter W M sh x s) := by
 have cZ : ∀ {p}, p ∈ M ++ hf sh -> p ∈ M ++ (hf sh ++ s.cZ) := fun q => by rw [<- mb]; exact wX _ q
 have gp := Wl (W := W) (M := M) lt (x := x)
 exact {
  vs := fun t ht => gp.vs t fun q => ht (by
   show t ∈ fq sh ++ (W ++ s.dA)
   rw [<- mb]; exact wX _ q)
  dA := fun t ht => pW _ (pW _ ht)
  cZ := fun t ht => pW _ (pW _ ht)
  aL := gp.aL
  aF := gp.aF
  mem := fun o w cs h => by
   obtain ⟨cs', h1, h2, av⟩ := gp.mem o w cs h
   exact ⟨cs', h1, h2, fun j hj => av j fun q => hj (cZ q)⟩
  row := fun o aT hc h => (gp.row o aT hc h).imp id cZ }
theorem N2 {n m : Nat} {sh : ni J} {y : dk J (hQ sh)} (h : AX n m W M sh s1 = some y) : (∀ t ∈ s1.dA, t ∈ W) /\ (∀ o j, (o, j) ∈ s1.cZ -> o < m -> (o, j) ∈ M ++ hf sh) /\ nj n m (M ++ hf sh) s1 [] sh = some y := by
 unfold AX at h
 split at h
 · cases h
 · rename_i ah
   split at h
   · rename_i e2; exact ⟨NU ah, NV e2, h⟩
   · cases h
theorem Wn {x y : X} (h : Ik x y = true) : x = y := by
 cases x <;> cases y <;> simp only [Ik] at h <;> first | rfl | cases h | rw [fl h]
theorem N3 {A : Type} [aV A] {S : A -> Prop} {n m : Nat} {x : X} {k : X -> bH J -> A} : ∀ {os : AY J} {o : yw J (yA os)}, yB n m W M x s1 os = some o -> ∃ (sh : ni J) (y : dk J (hQ sh)), AX n m W M sh s1 = some y /\ (S (leave W M s k os o) -> S (k x (enter W M sh y s)))
 | [], _, h => by cases h
 | [(x', sh)], o, h => by
   simp only [yB] at h
   split at h
   · rename_i e; rw [Wn e]; exact ⟨sh, o, h, fun q => q⟩
   · cases h
 | (x', sh) :: q :: r, o, h => by
   simp only [yB] at h
   split at h
   · rename_i e
     split at h
     · rename_i y hy
       cases h
       rw [Wn e]
       exact ⟨sh, y, hy, fun q => q⟩
     · cases h
   · split at h
     · rename_i y hy
       cases h
       obtain ⟨ai3, y', h1, h2⟩ := N3 (S := S) (k := k) hy
       exact ⟨ai3, y', h1, h2⟩
     · cases h
end
end Go.Abs.gB
