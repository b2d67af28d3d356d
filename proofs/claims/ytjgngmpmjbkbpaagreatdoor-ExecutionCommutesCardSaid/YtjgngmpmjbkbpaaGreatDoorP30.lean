/- Texts of this claim, joined and written short by a program. -/
import Derived.Test.YtjgngmpmjbkbpaaGreatDoorP29
import Derived.Test.YtjgngmpmjbkbpaaGreatDoorP00
set_option linter.unusedVariables false
set_option linter.unusedSimpArgs false
set_option linter.unusedSectionVars false
namespace Go.Abs.gB
open Go Go.Abs
structure n0 {A : Type} [aV A] (S : A -> Prop) : Prop where
 bad : ¬ S aV.bad
 br : ∀ {i : Nat} {c : Bool} {x y : A}, S (aV.br i c x y) -> (c = true /\ S x) \/ (c = false /\ S y)
 db : ∀ {α : Type} {o : Option α} {f : α -> A}, S (aV.db o f) -> ∃ x, o = some x /\ S (f x)
theorem NC {R : Type} (r : R) : n0 (A := Option R) (fun a => a = some r) where
 bad := fun h => by cases h
 br := fun h => px h
 db := fun h => bind_some h
def nX.val {R : Type} : nX R -> Option R
 | .leaf a => some a
 | .br _ c t e => bif c then t.val else e.val
 | .bad => none
theorem aim {R : Type} (r : R) : n0 (A := nX R) (fun a => a.val = some r) where
 bad := fun h => by cases h
 br := fun h => px h
 db := fun h => by cases h
section
variable {J : hP}
def pK (J : hP) (b : Nat) (B : List Bool) (ρ fs : List V) (o : Nat) (m : List (Nat × cE)) : cP J -> Prop
 | .cells w cs => ∃ a ws, ρ[o]? = some (.ptr a 0) /\ m = [(a, .cells ws)] /\ bp J B ρ fs cs ws /\ (w = true -> b <= a)
 | .row t s => ∃ v, ρ[o]? = some v /\ ku b (J.es t) (J.enc t) v s m
 | .mp k w x => ∃ a, ρ[o]? = some (.map a) /\ m = [(a, .map (ga (J.enc k) (J.enc w) x))] /\ b <= a
def eX (s : bH J) (G : Nat -> List (Nat × cE)) (F : cW) : cW := s.mem.map (fun e => G e.1) ++ F
structure cl (J : hP) (b : Nat) (F : cW) (fs : List V) (s : bH J) (σ : cb) (H : Heap) (G : Nat -> List (Nat × cE)) (ρ : List V) : Prop where
 aF : ρ.length = s.aF
 vs : ∀ t v, bI s.vs t = some v -> bY J s.aL ρ fs v (σ t)
 own : Own H (eX s G F)
 dE : (s.mem.map Prod.fst).Nodup
 lt : ∀ e ∈ s.mem, e.1 < s.aF
 mem : ∀ o aT, bI s.mem o = some aT -> pK J b s.aL ρ fs o (G o) aT
 ea : ∀ i β, bI s.ea i = some β -> s.aL[i]? = some β
structure jf (s ar : bH J) : Prop where
 vs : ar.vs = s.vs
 mem : ar.mem = s.mem
 aF : ar.aF = s.aF
 dA : ar.dA = s.dA
 cZ : ar.cZ = s.cZ
 aL : s.aL <+: ar.aL
 ea : (∀ i β, bI s.ea i = some β -> s.aL[i]? = some β) -> ∀ i β, bI ar.ea i = some β -> ar.aL[i]? = some β
theorem jf.rfl {s : bH J} : jf s s := ⟨Eq.refl _, Eq.refl _, Eq.refl _, Eq.refl _, Eq.refl _, eY, fun h => h⟩
theorem jf.trans {s ar Eg : bH J} (h : jf s ar) (k : jf ar Eg) : jf s Eg :=
 ⟨k.vs.trans h.vs, k.mem.trans h.mem, k.aF.trans h.aF, k.dA.trans h.dA, k.cZ.trans h.cZ, h.aL.trans k.aL, fun q => k.ea (h.ea q)⟩
variable {b : Nat} {F : cW} {fs : List V} {s ar : bH J} {σ bF : cb} {H : Heap} {G : Nat -> List (Nat × cE)} {ρ : List V} {az : l5 J} {call : c3}
theorem pK.mono {B rJ : List Bool} {cS : List V} (dC : B <+: rJ) (aM : ρ <+: cS) {o : Nat} {m : List (Nat × cE)} : ∀ {aT : cP J}, pK J b B ρ fs o m aT -> pK J b rJ cS fs o m aT
 | .cells w cs, ⟨a, ws, h1, h2, av, bc⟩ => ⟨a, ws, mw aM h1, h2, av.mono dC aM, bc⟩
 | .row t s, ⟨v, h1, h2⟩ => ⟨v, mw aM h1, h2⟩
 | .mp k w x, ⟨a, h1, h2⟩ => ⟨a, mw aM h1, h2⟩
theorem cl.ei (R : cl J b F fs s σ H G ρ) (k : jf s ar) : cl J b F fs ar σ H G ρ where
 aF := by rw [k.aF]; exact R.aF
 vs := fun t v h => by rw [k.vs] at h; exact (R.vs t v h).mono k.aL eY
 own := by have := R.own; unfold eX at this ⊢; rw [k.mem]; exact this
 dE := by rw [k.mem]; exact R.dE
 lt := by rw [k.mem, k.aF]; exact R.lt
 mem := fun o aT h => by rw [k.mem] at h; exact (R.mem o aT h).mono k.aL eY
 ea := k.ea R.ea
theorem ky {α : Type} {l : List (Nat × α)} {t : Nat} {a : α} (h : bI l t = some a) : (t, a) ∈ l := by
 induction l with
 | nil => cases h
 | cons p l ih =>
   obtain ⟨k, c⟩ := p
   rw [gd] at h
   split at h
   · rename_i e; cases h; subst e; simp
   · exact k5 _ (ih h)
theorem cl.at (R : cl J b F fs s σ H G ρ) {o : Nat} {aT : cP J} (h : bI s.mem o = some aT) : ∃ k, (eX s G F)[k]? = some (G o) /\ k < s.mem.length /\ ∃ ai : k < s.mem.length, s.mem[k].1 = o := by
 obtain ⟨k, ai, e⟩ := List.mem_iff_getElem.1 (ky h)
 refine ⟨k, ?_, ai, ai, by rw [e]⟩
 unfold eX
 rw [hq (by simpa using ai), kh, oV ai, e]; rfl
theorem cl.cells (R : cl J b F fs s σ H G ρ) {o : Nat} {w : Bool} {cs : List (aN J.ay)} (h : bI s.mem o = some (.cells w cs)) :
  ∃ a ws, ρ[o]? = some (.ptr a 0) /\ G o = [(a, .cells ws)] /\ (∀ H', Own H' (eX s G F) -> H'[a]? = some (.cells ws)) /\ bp J s.aL ρ fs cs ws /\ (w = true -> b <= a) := by
 obtain ⟨a, ws, h1, h2, av, bc⟩ := R.mem o _ h
 obtain ⟨k, ai, -⟩ := R.at h
 exact ⟨a, ws, h1, h2, fun H' aD => aD.get k (by rw [ai, h2]), av, bc⟩
mutual
theorem Ir {B : List Bool} : ∀ v : V, bY J B ρ fs (D3 v) v
 | .bool _ => .cj
 | .int _ _ => .int
 | .str _ => .str
 | .agg vs => .agg (Eh vs)
 | .c0 | .emp | .list _ _ | .ba _ | .iM | .ptr _ _ | .gw .. | .dB _ _ | .cQ .. | .hU | .map _ | .jB | .fn _ _ _ | .yield _ | .iN | .iface _ _ | .undef => .k
theorem Eh {B : List Bool} : ∀ vs : List V, bp J B ρ fs (AQ vs) vs
 | [] => .nil
 | v :: r => .cons (Ir v) (Eh r)
end
theorem yD {B : List Bool} {v : aN J.ay} {w : V} {cs : List (aN J.ay)} (h : qD v = some cs) (af : bY J B ρ fs v w) : bp J B ρ fs cs (aG w) := by
 cases af <;> simp only [qD] at h
 case agg h' => cases h; exact h'
 case ba => cases h
 case row => cases h
 case im => cases h
 case fv => cases h
 case kd => cases h
 case k =>
  split at h
  · cases h
  · cases h
    cases w <;> first | exact .cons .k .nil | simp_all
 case sl => cases h; rw [UT]; exact .cons .sl .nil
 all_goals cases h
 · exact .cons .int .nil
 · exact .cons .cj .nil
 · rename_i h'; exact .cons (.bo h') .nil
 · exact .cons .str .nil
 · rename_i h'; exact .cons (.dB h') .nil
 · rename_i h'; exact .cons (.ptr h') .nil
 · rename_i h'; exact .cons (.fn h') .nil
theorem ain {B : List Bool} {v : aN J.ay} {w : V} (h : Nl v = true) (af : bY J B ρ fs v w) : eP w = true := by
 cases af <;> simp only [Nl] at h <;> first | rfl | exact aft _ _ _ | exact h | cases h
theorem Is {B : List Bool} : ∀ {cs : List (aN J.ay)} {ws : List V}, AR cs = true -> bp J B ρ fs cs ws -> b4 ws = true
 | _, _, _, .nil => rfl
 | _, _, h, .cons h' r => by
   simp only [AR] at h
   split at h
   · rename_i e; simp only [b4, ain e h', Is h r, zq]
   · cases h
theorem aub (R : cl J b F fs s σ H G ρ) {o : Nat} {w : V} (h : Jv s.mem o = true) (af : bY J s.aL ρ fs (.row o) w) : aG w = [w] /\ eP w = true := by
 unfold Jv at h
 split at h
 · rename_i hm
   obtain ⟨v, h1, h2⟩ := R.mem _ _ hm
   cases af with
   | row av =>
     rw [h1] at av
     cases av
     exact ⟨h2.cells, h2.eP⟩
 · cases h
theorem avw (R : cl J b F fs s σ H G ρ) {v : aN J.ay} {w : V} {cs : List (aN J.ay)} (h : atM s.mem v = some cs) (af : bY J s.aL ρ fs v w) : bp J s.aL ρ fs cs (aG w) := by
 unfold atM at h
 split at h
 · split at h
   · rename_i e
     cases h
     rw [(aub R e af).1]
     exact .cons af .nil
   · cases h
 · exact yD h af
theorem auc (R : cl J b F fs s σ H G ρ) : ∀ {cs : List (aN J.ay)} {ws : List V}, atC s.mem cs = true -> bp J s.aL ρ fs cs ws -> b4 ws = true
 | _, _, _, .nil => rfl
 | _, _, h, .cons (w := w) h' r => by
   unfold atC at h
   split at h
   · rename_i e
     have : eP w = true := by
      split at e
      · exact (aub R e h').2
      · exact ain e h'
     simp only [b4, this, auc R h r, zq]
   · cases h
theorem Ei {B : List Bool} {cs : List (aN J.ay)} {ws : List V} {off : Nat} {sh : Option Nat} {v : aN J.ay} (h : cut cs off sh = some v) (hc : bp J B ρ fs cs ws) : ∃ w, hJ ws off sh = some w /\ bY J B ρ fs v w := by
 cases sh with
 | none =>
   simp only [cut, uO] at h
   exact hc.get h
 | some n =>
   simp only [cut] at h
   split at h
   · rename_i e
     cases h
     refine ⟨_, ?_, .agg ((hc.drop off).take n)⟩
     simp only [hJ]
     rw [if_pos (by rw [<- hc.length]; exact k3 e)]
   · cases h
theorem It {B : List Bool} : ∀ {xs : List (aN J.ay)} {cN : List V}, bp J B ρ fs xs cN -> ∀ {cs : List (aN J.ay)} {ws : List V} (o : Nat), bp J B ρ fs cs ws -> bp J B ρ fs (sQ cs o xs) (setCells ws o cN)
 | _, _, .nil, _, _, _, h => h
 | _, _, .cons h' r, _, _, o, h => It r (o + 1) (h.set o h')
theorem dm (R : cl J b F fs s σ H G ρ) (b7 : ∀ t v, bI az t = some v -> bY J s.aL ρ fs v (bF t)) : ∀ {x : aj} {v : aN J.ay}, ag az s x = some v -> bY J s.aL ρ fs v (bX bF σ x)
 | .tmp t, _, h => b7 t _ h
 | .var t, _, h => R.vs t _ h
 | .const v, _, h => by cases h; exact Ir v
 | .func i, _, h => by cases h; exact .fn .nil
theorem A0 (R : cl J b F fs s σ H G ρ) (b7 : ∀ t v, bI az t = some v -> bY J s.aL ρ fs v (bF t)) : ∀ {xs : List aj} {vs : List (aN J.ay)}, yv az s xs = some vs -> bp J s.aL ρ fs vs (xs.map (bX bF σ))
 | [], _, h => by cases h; exact .nil
 | x :: r, _, h => by
   simp only [yv] at h
   split at h
   · rename_i v e
     split at h
     · rename_i l e2
       cases h
       exact .cons (dm R b7 e) (A0 R b7 e2)
     · cases h
   · cases h
section
variable {A : Type} [aV A] {S : A -> Prop}
theorem A1 (aJ : n0 S) {v : aN J.ay} {w : V} {oI cc : bH J -> A} (h : S (split s v oI cc)) (ai : ∀ i β, bI s.ea i = some β -> s.aL[i]? = some β) (af : bY J s.aL ρ fs v w) :
  ∃ β ar, w = .bool β /\ jf s ar /\ ar.aL = s.aL /\ ((β = true /\ S (oI ar)) \/ (β = false /\ S (cc ar))) := by
 cases af <;> simp only [split] at h
 case cj b => cases b <;> exact ⟨_, s, rfl, .rfl, rfl, by simpa using h⟩
 case bo i b neg hb =>
  split at h
  · rename_i eE e
    have h3 := ai _ _ e
    rw [hb] at h3
    cases h3
    refine ⟨_, s, rfl, .rfl, rfl, ?_⟩
    cases b <;> cases neg <;> simpa using h
  · rename_i e
    rw [uO, hb] at h
    have key : ∀ β, b = β -> jf s { s with ea := (i, β) :: s.ea } := fun β nO => ⟨rfl, rfl, rfl, rfl, rfl, eY, fun q j aio hj => by
     rw [gd] at hj
     split at hj
     · rename_i e; cases hj; subst e; rw [<- nO]; exact hb
     · exact q j aio hj⟩
    cases neg <;> simp only at h <;> rcases aJ.br h with ⟨hc, h2⟩ | ⟨hc, h2⟩ <;> subst hc
    · exact ⟨_, _, rfl, key true rfl, rfl, .inl ⟨rfl, h2⟩⟩
    · exact ⟨_, _, rfl, key false rfl, rfl, .inr ⟨rfl, h2⟩⟩
    · exact ⟨_, _, rfl, key true rfl, rfl, .inr ⟨rfl, h2⟩⟩
    · exact ⟨_, _, rfl, key false rfl, rfl, .inl ⟨rfl, h2⟩⟩
 all_goals exact absurd h aJ.bad
theorem A2 {v : aN J.ay} {w : V} {c : Bool} (h : wg s v = some c) (af : bY J s.aL ρ fs v w) : w = .bool c := by
 cases af <;> simp only [wg] at h
 case cj => cases h; rfl
 case bo i b neg hb =>
  rw [uO, hb] at h
  cases neg <;> cases h <;> simp
 all_goals cases h
theorem aip (c : Bool) : jf s { s with aL := s.aL ++ [c] } := ⟨rfl, rfl, rfl, rfl, rfl, iL _ _, fun q i β h => mw (iL _ _) (q i β h)⟩
theorem Iu (l : List Bool) : jf s { s with aL := s.aL ++ l } := ⟨rfl, rfl, rfl, rfl, rfl, iL _ _, fun q i β h => mw (iL _ _) (q i β h)⟩
theorem VF {c neg : Bool} {k : aN J.ay -> bH J -> A} (h : S (name s c neg k)) : ∃ v ar, S (k v ar) /\ jf s ar /\ bY J ar.aL ρ fs v (.bool (c != neg)) :=
 ⟨_, _, h, aip c, .bo (by simp)⟩
theorem yE (bm : gC J) {t : Nat} {x : J.ay t} {k : aN J.ay -> bH J -> A} (h : S (elem t x s k)) : ∃ v ar, S (k v ar) /\ jf s ar /\ bY J ar.aL ρ fs v (J.enc t x) :=
 ⟨_, _, h, Iu _, bm.lD t x s.aL ρ fs⟩
end
end
end Go.Abs.gB
namespace Go.Abs.gB
open Go Go.Abs
section
variable {J : hP} {b : Nat} {F : cW} {fs : List V} {s ar : bH J} {σ bF : cb} {H : Heap} {G : Nat -> List (Nat × cE)} {ρ : List V} {az : l5 J} {call : c3} {A : Type} [aV A] {S : A -> Prop}
def Ej (J : hP) (ρ fs : List V) (s : bH J) (S : A -> Prop) (k : aN J.ay -> bH J -> A) (st : Heap -> Option (V × Heap × Nat)) (ms : cW) : Prop :=
 ∃ v ar w, S (k v ar) /\ jf s ar /\ bY J ar.aL ρ fs v w /\ ∀ H, Own H ms -> st H = some (w, H, H.length)
theorem done {v : aN J.ay} {w : V} {k : aN J.ay -> bH J -> A} {st : Heap -> Option (V × Heap × Nat)} {ms : cW} (h : S (k v s)) (af : bY J s.aL ρ fs v w) (e : ∀ H, Own H ms -> st H = some (w, H, H.length)) : Ej J ρ fs s S k st ms := ⟨v, s, w, h, .rfl, af, e⟩
theorem rK {c neg : Bool} {k : aN J.ay -> bH J -> A} {st : Heap -> Option (V × Heap × Nat)} {ms : cW} (h : S (name s c neg k)) (e : ∀ H, Own H ms -> st H = some (.bool (c != neg), H, H.length)) : Ej J ρ fs s S k st ms := by
 obtain ⟨v, ar, h1, h2, av⟩ := VF (ρ := ρ) (fs := fs) h
 exact ⟨v, ar, _, h1, h2, av, e⟩
theorem ND {ms : cW} (aJ : n0 S) {op : BinOp} {x y : aN J.ay} {uR VG : V} {k : aN J.ay -> bH J -> A} (h : S (bin s op k x y)) (hx : bY J s.aL ρ fs x uR) (hy : bY J s.aL ρ fs y VG) :
  Ej J ρ fs s S k (fun H => (dY op uR VG).map fun v => (v, H, H.length)) ms := by
 unfold bin at h
 split at h
 · rename_i bL a D4 c
   cases hx; cases hy
   split at h
   · exact absurd h aJ.bad
   · rename_i ai
     have ai := of_decide_eq_true ai
     subst ai
     have bA : ¬ (bL ≠ bL) := fun q => q rfl
     split at h
     · exact done h .int (fun H aD => by simp [dY])
     · exact done h .int (fun H aD => by simp [dY])
     · exact done h .int (fun H aD => by simp [dY])
     · exact rK h (fun H aD => by simp [dY])
     · exact rK h (fun H aD => by simp [dY])
     · exact rK h (fun H aD => by simp [dY])
     · exact rK h (fun H aD => by simp [dY])
     · exact rK h (fun H aD => by simp [dY])
     · exact rK h (fun H aD => by simp [dY])
     · exact done h .int (fun H aD => by simp [dY])
     · split at h
       · obtain ⟨q, e, h⟩ := aJ.db h
         refine done h .int fun H aD => ?_
         unfold Ak at e
         split at e
         · cases e
         · rename_i hc; cases e; simp [dY, hc]
       · exact absurd h aJ.bad
     · split at h
       · obtain ⟨q, e, h⟩ := aJ.db h
         refine done h .int fun H aD => ?_
         unfold Al at e
         split at e
         · cases e
         · rename_i hc; cases e; simp [dY, hc]
       · exact absurd h aJ.bad
     · exact absurd h aJ.bad
 · rename_i a c
   cases hx; cases hy
   split at h
   · obtain ⟨q, e, h⟩ := aJ.db h
     refine done h .str fun H aD => ?_
     unfold UU at e
     split at e
     · rename_i hc; cases e; simp only [dY, hc, if_true]; rfl
     · cases e
   · exact rK h (fun H aD => by simp [dY])
   · exact rK h (fun H aD => by simp [dY])
   · exact absurd h aJ.bad
 · exact absurd h aJ.bad
theorem aiq {ms : cW} (aJ : n0 S) {op : BinOp} {x : aN J.ay} {uR : V} {sR : IntKind} {c : Int} {k : aN J.ay -> bH J -> A} (h : S (Nn s op k x sR c)) (hx : bY J s.aL ρ fs x uR) :
  Ej J ρ fs s S k (fun H => (dY op uR (.int sR c)).map fun v => (v, H, H.length)) ms := by
 unfold Nn at h
 split at h
 · rename_i bL a
   cases hx
   split at h
   · split at h
     · rename_i e
       exact done h .int (fun H aD => by simp only [dY]; rw [if_pos (of_decide_eq_true e)]; rfl)
     · exact absurd h aJ.bad
   · split at h
     · rename_i e
       exact done h .int (fun H aD => by simp only [dY]; rw [if_pos (of_decide_eq_true e)]; rfl)
     · exact absurd h aJ.bad
   · split at h
     · rename_i e
       obtain ⟨rfl, h0⟩ := of_decide_eq_true e
       have : ¬ c = 0 := by omega
       exact done h .int (fun H aD => by simp [dY, this])
     · exact absurd h aJ.bad
   · split at h
     · rename_i e
       obtain ⟨rfl, h0⟩ := of_decide_eq_true e
       have : ¬ c = 0 := by omega
       exact done h .int (fun H aD => by simp [dY, this])
     · exact absurd h aJ.bad
   · exact ND aJ h .int .int
 · exact ND aJ h hx .int
theorem VH : ∀ {ks : List Nat} {xs cN : List (aN J.ay)} {vs ws : List V} {e : Bool}, sS s ks xs cN = some e -> bp J s.aL ρ fs xs vs -> bp J s.aL ρ fs cN ws -> jC ks vs ws = some e
 | [], _, _, _, _, _, h, .nil, .nil => by simp only [sS] at h; cases h; rfl
 | [], _, _, _, _, _, h, .cons _ _, .nil => by simp [sS] at h
 | [], _, _, _, _, _, h, .nil, .cons _ _ => by simp [sS] at h
 | [], _, _, _, _, _, h, .cons _ _, .cons _ _ => by simp [sS] at h
 | _ :: _, _, _, _, _, _, h, .nil, _ => by simp [sS] at h
 | _ :: _, _, _, _, _, _, h, .cons _ _, .nil => by simp [sS] at h
 | n :: ks, _, _, _, _, _, h, .cons hx rx, .cons hy air => by
   simp only [sS] at h
   split at h
   · cases h
   · rename_i e he
     have ih := VH he rx air
     simp only [jC]
     split at h
     · cases hx; cases hy
       split at h
       · rename_i ai
         have ai := of_decide_eq_true ai
         subst ai
         cases h
         simp [hX, ih]
       · cases h
     · cases hx; cases hy
       cases h
       simp [hX, ih]
     · split at h
       · rename_i a c ao hc
         cases h
         rw [A2 ao hx, A2 hc hy]
         simp [hX, ih]
       · cases h
     · cases h
theorem VI (R : cl J b F fs s σ H G ρ) (b7 : ∀ t v, bI az t = some v -> bY J s.aL ρ fs v (bF t)) : ∀ {ps : List (Nat × Nat × aj)} {z cs : List (aN J.ay)} {NF : List V}, H8 z az s ps = some cs -> bp J s.aL ρ fs z NF ->
  ∃ ws, tu NF (ps.map fun p => (p.1, p.2.1, bX bF σ p.2.2)) = some ws /\ bp J s.aL ρ fs cs ws
 | [], _, _, _, h, aP => by cases h; exact ⟨_, rfl, aP⟩
 | (off, n, x) :: r, z, cs, NF, h, aP => by
   simp only [H8] at h
   split at h
   · cases h
   · rename_i v af
     split at h
     · cases h
     · rename_i l hl
       split at h
       · rename_i ah e2 b5
         have hw := yD hl (dm R b7 af)
         obtain ⟨ws, h1, h2⟩ := VI R b7 h (It hw off aP)
         refine ⟨ws, ?_, h2⟩
         simp only [eD, tu]
         rw [if_pos ⟨by rw [<- hw.length]; exact fl ah, by rw [<- aP.length]; exact k3 e2, Is b5 hw⟩]
         exact h1
       · cases h
theorem VJ (bm : gC J) {t : Nat} {B : List Bool} : ∀ {vs : List (aN J.ay)} {ws : List V} {l : List (J.ay t)}, Ia t B vs = some l -> bp J B ρ fs vs ws -> ws = l.map (J.enc t)
 | _, _, _, h, .nil => by cases h; rfl
 | _, _, _, h, .cons af r => by
   simp only [Ia] at h
   split at h
   · cases h
   · rename_i x e
     split at h
     · cases h
     · rename_i l e2
       cases h
       rw [bm.iH _ _ _ _ _ _ _ af e, VJ bm e2 r]; rfl
theorem VK : ∀ {n : Nat} {ps : List (Nat × aj)}, H9 n ps = true -> ps.map Prod.fst = List.range' n ps.length
 | _, [], _ => rfl
 | n, p :: r, h => by
   simp only [H9] at h
   split at h
   · rename_i e
     simp only [eD, iv, th, fl e, VK h]
   · cases h
theorem nn {e : aj -> V} {x : Option aj} {o : Option (Option (aN J.ay))} {d n : Int} (hx : x.map (ag az s) = o) (R : cl J b F fs s σ H G ρ) (b7 : ∀ t v, bI az t = some v -> bY J s.aL ρ fs v (bF t)) (ho : (o = none /\ n = d) \/ o = some (some (.int .i64 n))) : x6 (bX bF σ) x d n := by
 rcases ho with ⟨rfl, rfl⟩ | rfl
 · cases x
   · exact .inl ⟨rfl, rfl⟩
   · cases hx
 · cases x
   · cases hx
   · rename_i o
     refine .inr ⟨o, rfl, ?_⟩
     simp only [r5, aA] at hx
     have := dm R b7 hx
     generalize bX bF σ o = w at this
     cases this; rfl
theorem _root_.Go.Abs.j8.cQ {α : Type} {es : Nat} {f : α -> V} {x : ak α} {e : α} {n : Int} {v : V} {m : List (Nat × cE)} (hr : ku b es f v x m) (h : aR x.l n = some e) : ∃ l N, v = .cQ l es 0 N N := by
 unfold ku at hr
 cases x with
 | mk l =>
   cases hr with
   | row q ds hd hb => exact ⟨_, _, rfl⟩
 | _ =>
   unfold aR at h
   split at h <;> simp [ak.l] at h
theorem _root_.Go.Abs.j8.VL {s : ak V} {l es e N : Nat} {m : List (Nat × cE)} (hr : j8 b e (.cQ l es 0 N N) s m) : es = e := by cases hr; rfl
theorem ais {α : Type} {es l N k : Nat} {f : α -> V} {x : ak α} {n : Int} {bL : IntKind} {e : α} {m : List (Nat × cE)} {ms : cW} {ag : aj -> V} {a i : aj} (he : aR x.l n = some e) (aD : Own H ms) (ai : ms[k]? = some m) (hr : ku b es f (.cQ l es 0 N N) x m) (hx : ag a = .cQ l es 0 N N) (hi : ag i = .int bL n) :
  b9 call ag H H.length (.indexAddr es a i) = some (.gw l es n.toNat 0 N, H, H.length) := by
 obtain ⟨rfl, rfl, -, -⟩ := hr.at rfl
 unfold aR at he
 split at he
 · rename_i hn
   have aH := (fy.1 he).1
   show step ag H H.length (.indexAddr es a i) = _
   simp only [step, hi, jW, hn, if_true, hx, aD.get k ai]
   rw [if_pos ⟨trivial, trivial, trivial, by simpa using aH, by simp⟩]
   simp
 · cases he
theorem NG (bm : gC J) {k n : Nat} (h : kindOf (J := J) k n = true) (a c : J.ay k) : hX n (J.enc k a) (J.enc k c) = some (@BEq.beq _ ⟨J.beq k⟩ a c) := by
 unfold kindOf at h
 split at h
 · rename_i m e; rw [fl h] at e; exact bm.VA k n e a c
 · cases h
set_option maxHeartbeats 1000000 in
theorem VM (bm : gC J) (aJ : n0 S) (R : cl J b F fs s σ H G ρ) (b7 : ∀ t v, bI az t = some v -> bY J s.aL ρ fs v (bF t)) {ty : Option Nat} {op : cH} {k : aN J.ay -> bH J -> A} (h : S (Ic az s ty k op)) :
  Ej J ρ fs s S k (fun H => b9 call (bX bF σ) H H.length op) (eX s G F) := by
 unfold Ic at h
 split at h
 case h_1 x =>
  split at h
  · rename_i v af; exact done h (dm R b7 af) fun _ _ => rfl
  · exact absurd h aJ.bad
 case h_2 c a d =>
  split at h
  · rename_i v af
    obtain ⟨β, ar, ah, e2, b5, cU⟩ := A1 aJ h R.ea (dm R b7 af)
    have mS := R.ei e2
    have VN : ∀ t v, bI az t = some v -> bY J ar.aL ρ fs v (bF t) := fun t v q => by rw [b5]; exact b7 t v q
    rcases cU with ⟨rfl, h⟩ | ⟨rfl, h⟩
    · split at h
      · rename_i v af; exact ⟨_, ar, _, h, e2, dm mS VN af, fun H aD => by simp only [oD, ah]; rfl⟩
      · exact absurd h aJ.bad
    · split at h
      · rename_i v af; exact ⟨_, ar, _, h, e2, dm mS VN af, fun H aD => by simp only [oD, ah]; rfl⟩
      · exact absurd h aJ.bad
  · exact absurd h aJ.bad
 case h_3 z ps =>
  split at h
  · rename_i cs hc
    obtain ⟨ws, h1, h2⟩ := VI R b7 hc (Eh z)
    exact done h (.agg h2) (fun H aD => afw h1)
  · exact absurd h aJ.bad
 case h_4 es z len ps mG =>
  split at h
  · rename_i t
    split at h
    · exact absurd h aJ.bad
    · rename_i vs cO
      split at h
      · rename_i l ah e2 b5 cU
        have na := A0 R b7 cO
        have hl := VJ bm ah na
        have hlen : vs.length = len := fl b5
        have fL : J.es t = es := fl cU
        have CQ : (ps.map fun p => bX bF σ p.2) = l.map (J.enc t) := by rw [<- hl, qR]; rfl
        have uS : (l.map (J.enc t)).length = len := by rw [<- hl, <- na.length]; exact hlen
        have tC : ps.length = len := by rw [<- uS, <- CQ, n4]
        split at h
        · refine done h .sl fun H aD => ?_
          have : len = 0 := by rw [<- uS]; rfl
          subst this
          cases ps
          · exact afz rfl
          · cases tC
        · rename_i bA
          refine done h .sl fun H aD => ?_
          rw [show bP (J.es t) (J.enc t) (.mk l) = .list es (l.map (J.enc t)) by rw [<- fL]; rfl]
          refine afy CQ (by rw [uS, <- tC]; exact VK e2) uS ?_ (GY (bm.bO t) l) ?_
          · refine eq_false fun q => ?_
            rw [q] at uS
            rw [n4] at uS
            exact bA (List.eq_nil_of_length_eq_zero uS)
          · intro v af
            obtain ⟨x, -, rfl⟩ := ey.1 af
            exact ⟨by rw [bm.es, fL], bm.ok t x⟩
      · exact absurd h aJ.bad
  · exact absurd h aJ.bad
 case h_5 sh x =>
  split at h
  · rename_i cs f hx
    split at h
    · rename_i v hc
      have af := dm R b7 hx
      generalize hw : bX bF σ x = w at af
      cases af with
      | dB af =>
        obtain ⟨u, h1, h2⟩ := Ei hc af
        exact done h h2 (fun H aD => by rw [nb, hw]; simp [jk, h1])
    · exact absurd h aJ.bad
  · rename_i o f hx
    split at h
    · rename_i wr cs hm
      split at h
      · rename_i v hc
        have af := dm R b7 hx
        generalize hw : bX bF σ x = w at af
        cases af with
        | ptr ho =>
          obtain ⟨a, ws, q1, aS, bZ, cR, -⟩ := R.cells hm
          rw [q1] at ho
          cases ho
          obtain ⟨u, h1, h2⟩ := Ei hc cR
          exact done h h2 (fun H aD => by rw [nb, hw]; simp [jk, bZ H aD, h1])
      · exact absurd h aJ.bad
    · exact absurd h aJ.bad
  · rename_i o n f hx
    split at h
    · rename_i t a hm
      obtain ⟨e, he, h⟩ := aJ.db h
      obtain ⟨v, ar, h1, h2, av⟩ := yE (ρ := ρ) (fs := fs) bm h
      split at h1
      · rename_i cs hc
        split at h1
        · rename_i u hu
          have af := dm R b7 hx
          generalize hw : bX bF σ x = w at af
          cases af with
          | im ho =>
            obtain ⟨v0, q1, aS⟩ := R.mem o _ hm
            obtain ⟨k, ai, -⟩ := R.at hm
            rw [q1] at ho
            cases ho
            have := aS.VL
            subst this
            obtain ⟨u', kJ, o6⟩ := Ei hu (yD hc av)
            exact ⟨_, ar, _, h1, h2, o6, fun H aD => afG k he aD ai aS rfl kJ hw⟩
        · exact absurd h1 aJ.bad
      · exact absurd h1 aJ.bad
    · exact absurd h aJ.bad
  · exact absurd h aJ.bad
 case h_6 x =>
  split at h
  · rename_i o f hx
    have af := dm R b7 hx
    generalize hw : bX bF σ x = w at af
    cases af with
    | ptr ho => exact done h (.ptr ho) (fun H aD => by simp [b9, step, hw])
  · rename_i o f hx
    have af := dm R b7 hx
    generalize hw : bX bF σ x = w at af
    cases af with
    | dB ho => exact done h (.dB ho) (fun H aD => by simp [b9, step, hw])
  · rename_i o f hx
    have af := dm R b7 hx
    generalize hw : bX bF σ x = w at af
    cases af with
    | fn ho => exact done h (.fn ho) (fun H aD => by simp [b9, step, hw])
  · rename_i o n f hx
    have af := dm R b7 hx
    generalize hw : bX bF σ x = w at af
    cases af with
    | im ho => exact done h (.im ho) (fun H aD => by simp [b9, step, hw])
  · exact absurd h aJ.bad
 case h_7 op x sR c =>
  split at h
  · rename_i v af
    simp only [mn]
    exact aiq aJ h (dm R b7 af)
  · exact absurd h aJ.bad
 case h_8 op x y _ =>
  split at h
  · rename_i v w af hw
    simp only [mn]
    exact ND aJ h (dm R b7 af) (dm R b7 hw)
  · exact absurd h aJ.bad
 case h_9 neg ks x y =>
  split at h
  · rename_i a c ao hc
    split at h
    · rename_i e he
      have e0 := dm R b7 ao
      have kf := dm R b7 hc
      generalize gO : bX bF σ x = wa at e0
      generalize pL : bX bF σ y = Ek at kf
      cases e0 with
      | agg e0 => cases kf with
        | agg kf =>
          refine rK h fun H aD => ?_
          simp only [b9, step, gO, pL, VH he e0 kf]
          cases neg <;> simp
    · exact absurd h aJ.bad
  · exact absurd h aJ.bad
 case h_10 kind neg x y =>
  split at h
  · rename_i v w af hw
    have e0 := dm R b7 af
    have kf := dm R b7 hw
    generalize gO : bX bF σ x = wa at e0
    generalize pL : bX bF σ y = Ek at kf
    split at h
    · rename_i t a
      cases e0; cases kf
      refine rK h fun H aD => ?_
      rw [qw, gO, pL]
      cases a <;> cases neg <;> rfl
    · split at h
      · rename_i a c ao hc
        refine rK h fun H aD => ?_
        rw [qw, gO, pL, A2 ao e0, A2 hc kf]
        cases neg <;> simp [tt]
      · exact absurd h aJ.bad
    · exact absurd h aJ.bad
  · exact absurd h aJ.bad
 case h_11 op x =>
  split at h
  · rename_i c hx
    have af := dm R b7 hx
    generalize hw : bX bF σ x = w at af
    cases af
    exact done h .cj (fun H aD => by rw [pt, hw]; rfl)
  · rename_i i neg hx
    have af := dm R b7 hx
    generalize hw : bX bF σ x = w at af
    cases af with
    | bo hb => exact done h (.bo hb) (fun H aD => by rw [pt, hw]; rename_i zN; cases neg <;> cases zN <;> rfl)
  · rename_i bL n hx
    have af := dm R b7 hx
    generalize hw : bX bF σ x = w at af
    cases af
    exact done h .int (fun H aD => by rw [pt, hw]; rfl)
  · exact absurd h aJ.bad
 case h_12 bL x =>
  split at h
  · rename_i n hx
    have af := dm R b7 hx
    generalize hw : bX bF σ x = w at af
    cases af
    exact done h .int (fun H aD => by simp [b9, step, hw])
  · exact absurd h aJ.bad
 case h_13 m x y =>
  split at h
  · rename_i bL a D4 c hx hy
    have e0 := dm R b7 hx
    have kf := dm R b7 hy
    generalize gO : bX bF σ x = wa at e0
    generalize pL : bX bF σ y = Ek at kf
    cases e0; cases kf
    split at h
    · rename_i e
      have e := of_decide_eq_true e
      subst e
      split at h
      · exact done h .int (fun H aD => by rw [SX]; simp [step, gO, pL])
      · exact done h .int (fun H aD => by rw [SX]; simp [step, gO, pL])
    · exact absurd h aJ.bad
  · exact absurd h aJ.bad
 case h_14 i cs =>
  split at h
  · rename_i vs cO
    exact done h (.fn (A0 R b7 cO)) (fun H aD => by rw [Md]; rfl)
  · exact absurd h aJ.bad
 case h_15 off x =>
  split at h
  · rename_i o f hx
    have af := dm R b7 hx
    generalize hw : bX bF σ x = w at af
    cases af with
    | ptr ho => exact done h (.ptr ho) (fun H aD => by rw [nc, hw])
  · rename_i o f hx
    have af := dm R b7 hx
    generalize hw : bX bF σ x = w at af
    cases af with
    | dB ho => exact done h (.dB ho) (fun H aD => by rw [nc, hw])
  · rename_i o n f hx
    have af := dm R b7 hx
    generalize hw : bX bF σ x = w at af
    cases af with
    | im ho => exact done h (.im ho) (fun H aD => by rw [nc, hw])
  · exact absurd h aJ.bad
 case h_16 off sh x =>
  split at h
  · rename_i cs hx
    split at h
    · rename_i v hc
      have af := dm R b7 hx
      generalize hw : bX bF σ x = w at af
      cases af with
      | agg ho =>
        obtain ⟨u, h1, h2⟩ := Ei hc ho
        exact done h h2 (fun H aD => by rw [ad2, hw]; simp [h1])
    · exact absurd h aJ.bad
  · exact absurd h aJ.bad
 case h_17 x i =>
  split at h
  · rename_i vs hx
    split at h
    · rename_i v hc
      have af := dm R b7 hx
      generalize hw : bX bF σ x = w at af
      cases af with
      | ba ho =>
        rw [uO] at hc
        obtain ⟨u, h1, h2⟩ := ho.get hc
        exact done h h2 (fun H aD => by rw [rq, hw]; simp [h1])
    · exact absurd h aJ.bad
  · exact absurd h aJ.bad
 case h_18 kind x =>
  split at h
  · rename_i a hx
    have af := dm R b7 hx
    generalize hw : bX bF σ x = w at af
    cases af
    exact done h .int (fun H aD => by simp [b9, step, hw])
  · rename_i t a hx
    have af := dm R b7 hx
    generalize hw : bX bF σ x = w at af
    cases af
    exact done h .int (fun H aD => uD hw _)
  · rename_i o hx
    split at h
    · rename_i t a hm
      have af := dm R b7 hx
      generalize hw : bX bF σ x = w at af
      cases af with
      | row ho =>
        obtain ⟨v0, q1, aS⟩ := R.mem o _ hm
        obtain ⟨k, ai, -⟩ := R.at hm
        rw [q1] at ho
        cases ho
        exact done h .int (fun H aD => afE aD k ai aS hw)
    · exact absurd h aJ.bad
  · rename_i o hx
    split at h
    · rename_i eh jd m hm
      have af := dm R b7 hx
      generalize hw : bX bF σ x = w at af
      cases af with
      | row ho =>
        obtain ⟨a, q1, aS, -⟩ := R.mem o _ hm
        obtain ⟨k, ai, -⟩ := R.at hm
        rw [q1] at ho
        cases ho
        exact done h .int (fun H aD => U9 (aD.get k (by rw [ai, aS])) hw)
    · exact absurd h aJ.bad
  · rename_i hx
    have af := dm R b7 hx
    generalize hw : bX bF σ x = w at af
    cases af
    exact done h .int (fun H aD => by simp [b9, step, hw])
  · rename_i hx
    have af := dm R b7 hx
    generalize hw : bX bF σ x = w at af
    cases af
    exact done h .int (fun H aD => by simp [b9, step, hw])
  · exact absurd h aJ.bad
 case h_19 es x i =>
  split at h
  · rename_i t a bL n hx hi
    have e0 := dm R b7 hx
    have kf := dm R b7 hi
    generalize gO : bX bF σ x = wa at e0
    generalize pL : bX bF σ i = Ek at kf
    cases e0; cases kf
    split at h
    · rename_i e
      have e := fl e
      subst e
      obtain ⟨y, hy, h⟩ := aJ.db h
      obtain ⟨v, ar, h1, h2, av⟩ := yE (ρ := ρ) (fs := fs) bm h
      split at h1
      · rename_i cs hc
        exact ⟨_, ar, _, h1, h2, .dB (yD hc av), fun H aD => x3 gO pL hy _⟩
      · exact absurd h1 aJ.bad
    · exact absurd h aJ.bad
  · rename_i o bL n hx hi
    split at h
    · rename_i t a hm
      split at h
      · rename_i e
        have e := fl e
        subst e
        obtain ⟨y, hy, h⟩ := aJ.db h
        have e0 := dm R b7 hx
        have kf := dm R b7 hi
        generalize gO : bX bF σ x = wa at e0
        generalize pL : bX bF σ i = Ek at kf
        cases kf
        cases e0 with
        | row ho =>
          obtain ⟨v0, q1, aS⟩ := R.mem o _ hm
          obtain ⟨k, ai, -⟩ := R.at hm
          rw [q1] at ho
          cases ho
          obtain ⟨l, N, rfl⟩ := aS.cQ hy
          exact done h (.im q1) (fun H aD => ais hy aD ai aS gO pL)
      · exact absurd h aJ.bad
    · exact absurd h aJ.bad
  · exact absurd h aJ.bad
 case h_20 x i =>
  split at h
  · rename_i a bL n hx hi
    have e0 := dm R b7 hx
    have kf := dm R b7 hi
    generalize gO : bX bF σ x = wa at e0
    generalize pL : bX bF σ i = Ek at kf
    cases e0; cases kf
    obtain ⟨y, hy, h⟩ := aJ.db h
    exact done h .int (fun H aD => afv gO pL hy _)
  · exact absurd h aJ.bad
 case h_21 x lo hi =>
  split at h
  · rename_i a hx
    have e0 := dm R b7 hx
    generalize gO : bX bF σ x = wa at e0
    cases e0
    split at h
    · rename_i ah e2
      obtain ⟨y, hy, h⟩ := aJ.db h
      exact done h .str (fun H aD => GW hy (nn (e := bX bF σ) ah R b7 (.inl ⟨rfl, rfl⟩)) (nn (e := bX bF σ) e2 R b7 (.inl ⟨rfl, rfl⟩)) gO)
    · rename_i ah e2
      obtain ⟨y, hy, h⟩ := aJ.db h
      exact done h .str (fun H aD => GW hy (nn (e := bX bF σ) ah R b7 (.inr rfl)) (nn (e := bX bF σ) e2 R b7 (.inl ⟨rfl, rfl⟩)) gO)
    · rename_i ah e2
      obtain ⟨y, hy, h⟩ := aJ.db h
      exact done h .str (fun H aD => GW hy (nn (e := bX bF σ) ah R b7 (.inl ⟨rfl, rfl⟩)) (nn (e := bX bF σ) e2 R b7 (.inr rfl)) gO)
    · rename_i ah e2
      obtain ⟨y, hy, h⟩ := aJ.db h
      exact done h .str (fun H aD => GW hy (nn (e := bX bF σ) ah R b7 (.inr rfl)) (nn (e := bX bF σ) e2 R b7 (.inr rfl)) gO)
    · exact absurd h aJ.bad
  · exact absurd h aJ.bad
 case h_22 kind z x i ok =>
  split at h
  · rename_i o v hx hi
    split at h
    · rename_i eh jd m hm
      split at h
      · rename_i key cF ah e2 b5
        have e0 := dm R b7 hx
        have kf := dm R b7 hi
        generalize gO : bX bF σ x = wa at e0
        cases e0 with
        | row ho =>
          obtain ⟨a, q1, aS, -⟩ := R.mem o _ hm
          obtain ⟨k, ai, -⟩ := R.at hm
          rw [q1] at ho
          cases ho
          have VO := bm.iH _ _ _ _ _ _ _ kf ah
          have aP := bm.iH _ _ _ ρ fs _ _ (Ir z) e2
          have bt : ∀ H, Own H (eX s G F) -> H[a]? = some (.map (ga (J.enc eh) (J.enc jd) m)) := fun H aD => aD.get k (by rw [ai, aS])
          split at h
          · obtain ⟨v, ar, h1, h2, av⟩ := yE (ρ := ρ) (fs := fs) bm h
            exact ⟨v, ar, _, h1, h2, av, fun H aD => @U8 H _ _ _ _ ⟨J.beq eh⟩ _ _ _ _ _ _ _ _ _ (NG bm b5) cF aP (bt H aD) gO VO⟩
          · obtain ⟨v, ar, h1, h2, av⟩ := yE (ρ := ρ) (fs := fs) bm h
            obtain ⟨bv, s2, bc, h5, gu⟩ := VF (ρ := ρ) (fs := fs) h1
            refine ⟨_, s2, _, bc, h2.trans h5, .ba (.cons (av.mono h5.aL eY) (.cons gu .nil)), fun H aD => ?_⟩
            have := @afD H call (bX bF σ) _ _ ⟨J.beq eh⟩ _ _ _ _ _ _ _ _ _ (NG bm b5) cF aP (bt H aD) gO VO
            show b9 call (bX bF σ) H H.length (.lookup kind z x i true) = _
            rw [this]; simp [Ib]
      · exact absurd h aJ.bad
    · exact absurd h aJ.bad
  · exact absurd h aJ.bad
 case h_23 es x lo hi =>
  split at h
  · rename_i t a hx
    have e0 := dm R b7 hx
    generalize gO : bX bF σ x = wa at e0
    cases e0
    split at h
    · rename_i e
      have e := fl e
      subst e
      split at h
      · rename_i ah e2
        obtain ⟨y, hy, h⟩ := aJ.db h
        exact done h .sl (fun H aD => GV hy (nn (e := bX bF σ) ah R b7 (.inl ⟨rfl, rfl⟩)) (nn (e := bX bF σ) e2 R b7 (.inl ⟨rfl, rfl⟩)) gO)
      · rename_i ah e2
        obtain ⟨y, hy, h⟩ := aJ.db h
        exact done h .sl (fun H aD => GV hy (nn (e := bX bF σ) ah R b7 (.inr rfl)) (nn (e := bX bF σ) e2 R b7 (.inl ⟨rfl, rfl⟩)) gO)
      · rename_i ah e2
        obtain ⟨y, hy, h⟩ := aJ.db h
        exact done h .sl (fun H aD => GV hy (nn (e := bX bF σ) ah R b7 (.inl ⟨rfl, rfl⟩)) (nn (e := bX bF σ) e2 R b7 (.inr rfl)) gO)
      · rename_i ah e2
        obtain ⟨y, hy, h⟩ := aJ.db h
        exact done h .sl (fun H aD => GV hy (nn (e := bX bF σ) ah R b7 (.inr rfl)) (nn (e := bX bF σ) e2 R b7 (.inr rfl)) gO)
      · exact absurd h aJ.bad
    · exact absurd h aJ.bad
  · exact absurd h aJ.bad
 case h_24 => exact absurd h aJ.bad
end
end Go.Abs.gB
