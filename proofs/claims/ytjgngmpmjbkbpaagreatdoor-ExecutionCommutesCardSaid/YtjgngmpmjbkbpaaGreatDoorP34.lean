/- Texts of this claim, joined and written short by a program. -/
import Derived.Test.YtjgngmpmjbkbpaaGreatDoorP33
import Derived.Test.YtjgngmpmjbkbpaaGreatDoorP00
set_option linter.unusedVariables false
set_option linter.unusedSimpArgs false
set_option linter.unusedSectionVars false
namespace Go.Abs.gB
open Go Go.Abs
section
variable {J : hP} {b : Nat} {F : cW} {fs : List V} {s s1 s2 cz : bH J} {σ dV : cb} {H H1 : Heap} {G ax : Nat -> List (Nat × cE)} {ρ jv : List V} {ad : Nat -> Option ca} {cr : pG J} {W : List Nat}
theorem Wo (c : Bool) (x y : uQ) : (Eb c x y).val = bif c then x.val else y.val := by
 unfold Eb
 split
 · split <;> rfl
 all_goals first | rfl | (cases c <;> simp [uQ.val])
theorem Wp {c : Bool} {x y : uQ} {i : Nat} {n : Bool} {d : Bool} (h : Eb c x y = .nm i n d) : ∃ a e, x = .nm i n a /\ y = .nm i n e := by
 unfold Eb at h
 split at h
 · split at h
   · rename_i e; cases h; exact ⟨_, _, rfl, by rw [fl e]⟩
   · rename_i e; cases h; exact ⟨_, _, rfl, by rw [fl e]⟩
   · cases h
 all_goals cases h
def IM (fs : List V) (l : Loc) (s1 : bH J) : VC J -> Prop
 | .bad => True
 | .v v => ∃ v1, at_ s1 l = some v1 /\ ∀ (B : List Bool) (ρ : List V) (w : V), bY J B ρ fs v1 w -> bY J B ρ fs v w
 | .b x => ∃ v1, at_ s1 l = some v1 /\ wg s1 v1 = some x.val /\ ∀ i n d, x = .nm i n d -> v1 = .bo i n
theorem N4 {l : Loc} : ∀ {p : nX (bH J)}, p.val = some s1 -> IM fs l s1 (mx l p)
 | .bad, h => by cases h
 | .leaf s, h => by
   cases h
   unfold mx
   split
   · trivial
   · rename_i v af
     split
     · exact ⟨_, af, rfl, fun _ _ _ e => by cases e⟩
     · split
       · rename_i hb; exact ⟨_, af, hb, fun _ _ _ e => by cases e; rfl⟩
       · trivial
     · exact ⟨_, af, fun _ _ _ q => q⟩
 | .br i c t e, h => by
   have ht : c = true -> IM fs l s1 (mx l t) := fun hc => N4 (by subst hc; exact h)
   have he : c = false -> IM fs l s1 (mx l e) := fun hc => N4 (by subst hc; exact h)
   unfold mx
   split
   · rename_i x y h1 h2
     rw [h1] at ht; rw [h2] at he
     cases c with
     | true =>
       obtain ⟨v1, al, a2, a3⟩ := ht rfl
       refine ⟨v1, al, by rw [a2, Wo]; rfl, fun j n d q => ?_⟩
       obtain ⟨_, _, q1, aS⟩ := Wp q
       exact a3 _ _ _ q1
     | false =>
       obtain ⟨v1, al, a2, a3⟩ := he rfl
       refine ⟨v1, al, by rw [a2, Wo]; rfl, fun j n d q => ?_⟩
       obtain ⟨_, _, q1, aS⟩ := Wp q
       exact a3 _ _ _ aS
   · rename_i k a bs bf h1 h2
     rw [h1] at ht; rw [h2] at he
     split
     · rename_i ai
       have ai := of_decide_eq_true ai
       subst ai
       cases c
       · exact he rfl
       · exact ht rfl
     · trivial
   · rename_i a bf h1 h2
     rw [h1] at ht; rw [h2] at he
     cases c
     · exact he rfl
     · exact ht rfl
   · rename_i v w _ _ h1 h2
     rw [h1] at ht; rw [h2] at he
     split
     · rename_i hs
       cases c with
       | false => exact he rfl
       | true =>
         obtain ⟨v1, al, a2⟩ := ht rfl
         exact ⟨v1, al, fun B ρ u q => NS hs (a2 B ρ u q)⟩
     · trivial
   · trivial
theorem N5 : ∀ {p : nX (bH J)}, AZ W p = true -> ∃ s1, p.val = some s1 /\ (∀ t ∈ s1.dA, t ∈ W) /\ s1.cZ = []
 | .bad, h => by cases h
 | .leaf s, h => by
   simp only [AZ] at h
   split at h
   · rename_i ah e2; exact ⟨s, rfl, NU ah, e2⟩
   · cases h
 | .br i c t e, h => by
   simp only [AZ] at h
   split at h
   · rename_i h1
     cases c with
     | true => obtain ⟨s1, al, a2⟩ := N5 h1; exact ⟨s1, al, a2⟩
     | false => obtain ⟨s1, al, a2⟩ := N5 h; exact ⟨s1, al, a2⟩
   · cases h
theorem Wq {A : Type} [aV A] {S : A -> Prop} (aJ : n0 S) (bM : cl J b F fs s1 dV H1 ax jv) (aM : ρ <+: jv) {B : List Bool} (np : B <+: s1.aL) {p : nX (bH J)} (hp : p.val = some s1) {k : bH J -> A} :
  ∀ {sl : List Nat} {cz : bH J}, cl J b F fs cz dV H1 ax ρ -> B <+: cz.aL -> S (sT B.length ρ.length p sl cz k) -> ∃ jw, S (k jw) /\ cl J b F fs jw dV H1 ax ρ /\ hh sl [] cz jw /\ jw.dA = cz.dA /\ jw.cZ = cz.cZ
 | [], cz, R, _, h => ⟨cz, h, R, .rfl, rfl, rfl⟩
 | t :: r, cz, R, dC, h => by
   have hm := N4 (fs := fs) (l := .s t) hp
   simp only [sT] at h
   have go : ∀ {v : aN J.ay} {l : List Bool}, bY J (cz.aL ++ l) ρ fs v (dV t) -> S (sT B.length ρ.length p r { cz with vs := (t, v) :: cz.vs, aL := cz.aL ++ l } k) ->
     ∃ jw, S (k jw) /\ cl J b F fs jw dV H1 ax ρ /\ hh (t :: r) [] cz jw /\ jw.dA = cz.dA /\ jw.cZ = cz.cZ := fun {v l} af h => by
    have mS := A7 (R.ei (Iu l)) (l := .s t) (w := dV t) rfl af
    obtain ⟨jw, al, a2, a3, a4, a5⟩ := Wq aJ bM aM np hp mS (dC.trans (iL _ _)) h
    exact ⟨jw, al, a2, (IL (s := cz) (l := .s t) (v := v) (iL cz.aL l) (fun q e => by cases e; exact qN ..) (fun _ _ e => by cases e)).trans (a3.wide (fun q bD => k5 _ bD) fun _ q => q), a4, a5⟩
   have N6 : ∀ {v : aN J.ay}, bY J cz.aL ρ fs v (dV t) -> S (sT B.length ρ.length p r { cz with vs := (t, v) :: cz.vs } k) -> ∃ jw, S (k jw) /\ cl J b F fs jw dV H1 ax ρ /\ hh (t :: r) [] cz jw /\ jw.dA = cz.dA /\ jw.cZ = cz.cZ := fun {v} af h =>
    go (v := v) (l := []) (by rw [vh]; exact af) (by rw [vh]; exact h)
   have nm : ∀ {x : uQ}, IM fs (.s t) s1 (.b x) -> bY J (cz.aL ++ [x.val]) ρ fs (.bo cz.aL.length false) (dV t) := fun {x} ⟨v1, al, a2, a3⟩ => by
    obtain ⟨w, aC, bB⟩ := yN bM al
    cases aC
    rw [A2 a2 bB]
    have : bY J (cz.aL ++ [x.val]) ρ fs (.bo cz.aL.length false) (.bool (x.val != false)) := .bo (by simp)
    simpa using this
   split at h
   · rename_i v af
     rw [af] at hm
     split at h
     · rename_i hw
       obtain ⟨v1, al, a2⟩ := hm
       obtain ⟨w, aC, bB⟩ := yN bM al
       cases aC
       exact N6 ((ID np aM hw (a2 _ _ _ bB)).mono dC eY) h
     · exact absurd h aJ.bad
   · rename_i x hx
     rw [hx] at hm
     split at h
     · rename_i d
       obtain ⟨v1, al, a2, a3⟩ := hm
       obtain ⟨w, aC, bB⟩ := yN bM al
       cases aC
       exact N6 (by rw [A2 a2 bB]; exact .cj) h
     · rename_i i neg d
       split at h
       · rename_i hi
         obtain ⟨v1, al, a2, a3⟩ := hm
         obtain ⟨w, aC, bB⟩ := yN bM al
         cases aC
         have := a3 _ _ _ rfl
         subst this
         exact N6 ((ID np aM (by simpa only [wf] using hi) bB).mono dC eY) h
       · exact go (nm hm) h
     · exact go (nm hm) h
   · exact absurd h aJ.bad
theorem Wr {A : Type} [aV A] {S : A -> Prop} (bm : gC J) (aJ : n0 S) (hT : as0 ad cr) (ae : ∀ j f, nth cr.fv j = some f -> ∃ w, fs[j]? = some w /\ oM ad F f.dQ f.rt f.f w) {ops : List b3} {fY : Option (List Nat)} {k : bH J -> A} {Q : X -> cb -> Heap -> Prop}
  (h : S (so cr ops [] s [] fun s wr => Im fY ops wr (k s))) (R : cl J b F fs s σ H G ρ)
  (dq : ∀ ar a7 H' G' cS, S (k ar) -> cl J b F fs ar a7 H' G' cS -> ρ <+: cS -> Fr s ar -> Q .normal a7 H') : ft ad b (.region ops fY) σ H Q := by
 cases fY with
 | none => exact sI (A6 bm aJ hT ae h .nil R (fun t v q => by cases q) fun ar a7 H' G' cS e1 yJ al a0 a2 a3 a4 => dq _ _ _ _ _ al a2 a3 a4)
 | some fY =>
   refine UQ (A6 bm aJ hT ae h .nil R (fun t v q => by cases q) fun ar a7 H' G' cS e1 yJ al a0 a2 a3 a4 => ?_)
   simp only [Im] at al
   split at al
   · rename_i e; exact ⟨aiI a0 e, dq _ _ _ _ _ al a2 a3 a4⟩
   · exact absurd al aJ.bad
theorem hh.pN {Ws N7 : List Nat} {Wt N8 : List (Nat × Nat)} {sU jw s2 : bH J} (h : hh Ws Wt sU jw) (_ : True) (bN : Fr jw s2) (lt : ∀ e ∈ sU.mem, e.1 < sU.aF) (hW : ∀ t ∈ Ws, t ∈ N7) (k2 : ∀ p ∈ Wt, p ∈ N8) (hd : ∀ t ∈ s2.dA, t ∈ N7) (hm : ∀ o j, (o, j) ∈ s2.cZ -> o < sU.aF -> (o, j) ∈ N8) : hh N7 N8 sU s2 where
 vs := fun t ht => (bN.vs t fun q => ht (hd t q)).trans (h.vs t fun q => ht (hW t q))
 aL := h.aL.trans bN.aL
 aF := c4 h.aF bN.aF
 mem := fun o w cs hc => by
  obtain ⟨n1, h1, h2, av⟩ := h.mem o w cs hc
  obtain ⟨Es, cn, dZ, lx⟩ := bN.mem o w n1 h1
  exact ⟨Es, cn, dZ.trans h2, fun j hj => (lx j fun q => hj (hm o j q (lt _ (ky hc)))).trans (av j fun q => hj (k2 _ q))⟩
 row := fun o aT h0 hc => (h.row o aT h0 hc).elim (fun h1 => (bN.row o aT h0 h1).imp id fun q => hm o 0 q (lt _ (ky hc))) fun q => .inr (k2 _ q)
theorem cl.Wu (R : cl J b F fs s σ H G ρ) {dA : List Nat} {cZ : List (Nat × Nat)} : cl J b F fs { s with dA := dA, cZ := cZ } σ H G ρ :=
 ⟨R.aF, R.vs, R.own, R.dE, R.lt, R.mem, R.ea⟩
theorem IP {A : Type} [aV A] {S : A -> Prop} (bm : gC J) (aJ : n0 S) (hT : as0 ad cr) (ae : ∀ j f, nth cr.fv j = some f -> ∃ w, fs[j]? = some w /\ oM ad F f.dQ f.rt f.f w) {k : l5 J -> bH J -> A} :
  ∀ {ops : List b3} {az : l5 J} {bF : cb} {s : bH J} {σ : cb}, S (wm cr ops az s k) -> cl J b F fs s σ H G ρ -> (∀ t v, bI az t = some v -> bY J s.aL ρ fs v (bF t)) ->
  ∃ ij s1 qH dV, ig (cK ad) (eX s G F) ops bF σ qH dV /\ S (k ij s1) /\ cl J b F fs s1 dV H G ρ /\ (∀ t v, bI ij t = some v -> bY J s1.aL ρ fs v (qH t)) /\ Fr s s1 /\ s1.mem = s.mem /\ s1.aF = s.aF
 | [], az, bF, s, σ, h, R, b7 => ⟨az, s, bF, σ, .nil, h, R, b7, .rfl, rfl, rfl⟩
 | ⟨d, op, g⟩ :: r, az, bF, s, σ, h, R, b7 => by
   have fin : ∀ {s1 : bH J} {v : aN J.ay} {w : V}, jf s s1 -> bY J s1.aL ρ fs v w -> S (match put az s1 v d with | (az, s) => wm cr r az s k) ->
     ∃ ij s2 qH dV, ig (cK ad) (eX s G F) r (gL bF d w) (gM σ d w) qH dV /\ S (k ij s2) /\ cl J b F fs s2 dV H G ρ /\ (∀ t v, bI ij t = some v -> bY J s2.aL ρ fs v (qH t)) /\ Fr s s2 /\ s2.mem = s.mem /\ s2.aF = s.aF := by
    intro s1 v w ai af h1
    have rP : ∀ t v, bI az t = some v -> bY J s1.aL ρ fs v (bF t) := fun t v q => (b7 t v q).mono ai.aL eY
    have bt : eX s G F = eX s1 G F := by unfold eX; rw [ai.mem]
    rw [bt, <- ai.mem, <- ai.aF]
    match d with
    | none =>
      obtain ⟨ij, s2, a, c, ah, e2, b5, cU, ej, jH⟩ := IP bm aJ hT ae h1 (R.ei ai) rP
      exact ⟨ij, s2, a, c, ah, e2, b5, cU, ai.bN.trans ej, jH⟩
    | some (t, false) =>
      obtain ⟨ij, s2, a, c, ah, e2, b5, cU, ej, jH⟩ := IP bm aJ hT ae h1 (R.ei ai) (V8 rP af)
      exact ⟨ij, s2, a, c, ah, e2, b5, cU, ai.bN.trans ej, jH⟩
    | some (t, true) =>
      obtain ⟨ij, s2, a, c, ah, e2, b5, cU, ej, jH⟩ := IP bm aJ hT ae h1 ((R.ei ai).put af) rP
      exact ⟨ij, s2, a, c, ah, e2, b5, cU, ai.bN.trans (VX.trans ej), jH⟩
   have go : ∀ {s1 : bH J}, jf s s1 -> hE bF σ g = some true -> S (Nw cr az s1 d (fun v s => match put az s v d with | (az, s) => wm cr r az s k) op) ->
     ∃ ij s2 qH dV, ig (cK ad) (eX s G F) (⟨d, op, g⟩ :: r) bF σ qH dV /\ S (k ij s2) /\ cl J b F fs s2 dV H G ρ /\ (∀ t v, bI ij t = some v -> bY J s2.aL ρ fs v (qH t)) /\ Fr s s2 /\ s2.mem = s.mem /\ s2.aF = s.aF := by
    intro s1 ai hw h1
    have bM := R.ei ai
    have rP : ∀ t v, bI az t = some v -> bY J s1.aL ρ fs v (bF t) := fun t v q => (b7 t v q).mono ai.aL eY
    have bt : eX s G F = eX s1 G F := by unfold eX; rw [ai.mem]
    unfold Nw at h1
    split at h1
    · split at h1
      · rename_i fv aiR A5 IA
        obtain ⟨v, ar, w, h1, h2, av, bc⟩ := VS bm aJ bM hT ae h1 (dm bM rP A5) (A0 bM rP IA)
        obtain ⟨ij, s2, a, c, ah, e2⟩ := fin (ai.trans h2) av h1
        exact ⟨ij, s2, a, c, .step hw (fun H' aD => by rw [bt] at aD; exact Ao (bc H' aD).1 (bc H' aD).2 rfl rfl) ah, e2⟩
      · exact absurd h1 aJ.bad
    · obtain ⟨v, ar, w, h1, h2, av, bc⟩ := VM (call := cK ad) bm aJ bM rP h1
      obtain ⟨ij, s2, a, c, ah, e2⟩ := fin (ai.trans h2) av h1
      exact ⟨ij, s2, a, c, .step hw (fun H' aD => by rw [bt] at aD; exact bc H' aD) ah, e2⟩
   have skip : ∀ {s1 : bH J}, jf s s1 -> hE bF σ g = some false -> S (match put az s1 (.ba []) d with | (az, s) => wm cr r az s k) ->
     ∃ ij s2 qH dV, ig (cK ad) (eX s G F) (⟨d, op, g⟩ :: r) bF σ qH dV /\ S (k ij s2) /\ cl J b F fs s2 dV H G ρ /\ (∀ t v, bI ij t = some v -> bY J s2.aL ρ fs v (qH t)) /\ Fr s s2 /\ s2.mem = s.mem /\ s2.aF = s.aF := by
    intro s1 ai hw h1
    obtain ⟨ij, s2, a, c, ah, e2⟩ := fin ai (.ba .nil) h1
    exact ⟨ij, s2, a, c, .skip hw ah, e2⟩
   simp only [wm] at h
   match g with
   | none => exact go .rfl rfl h
   | some (x, w) =>
     simp only at h
     split at h
     · exact absurd h aJ.bad
     · rename_i v af
       have na := dm R b7 af
       split at h
       · generalize yI : bX bF σ x = uR at na
         cases na with
         | ba eK => cases eK; exact skip .rfl (UR yI) h
       · cases w with
         | true =>
           obtain ⟨β, s1, ah, e2, b5, cU⟩ := A1 aJ h R.ea na
           rcases cU with ⟨rfl, h⟩ | ⟨rfl, h⟩
           · exact go e2 (ib ah rfl) h
           · exact skip e2 (GR ah rfl) h
         | false =>
           obtain ⟨β, s1, ah, e2, b5, cU⟩ := A1 aJ h R.ea na
           rcases cU with ⟨rfl, h⟩ | ⟨rfl, h⟩
           · exact skip e2 (GS ah rfl) h
           · exact go e2 (ib ah rfl) h
theorem iq.refl : ∀ l : List Bool, iq l l
 | [] => .nil
 | _ :: r => .cons id (iq.refl r)
theorem iq.take {l r : List Bool} : iq l r -> ∀ n, iq (l.take n) (r.take n)
 | .nil, n => by simp; exact .nil
 | .cons h k, 0 => .nil
 | .cons h k, n + 1 => .cons h (k.take n)
theorem iq.len {l r : List Bool} : iq l r -> l.length = r.length
 | .nil => rfl
 | .cons _ k => by simp [k.len]
theorem iq.no {l r : List Bool} : iq l r -> r.all (!·) = true -> l.all (!·) = true
 | .nil, _ => rfl
 | .cons (a := a) (c := c) h k, e => by
   simp only [List.all_cons, cd] at e ⊢
   refine ⟨?_, k.no e.2⟩
   cases a with
   | false => rfl
   | true => rw [h rfl] at e; cases e.1
theorem ai4 {fY : List Nat} {ops : List b3} {wr n2 : List Bool} (h : iq wr n2) (ho : vp fY ops n2 = true) : vp fY ops wr = true := by
 unfold vp at ho ⊢
 simp only [cd] at ho ⊢
 obtain ⟨⟨h1, h2⟩, av⟩ := ho
 refine ⟨⟨(h.take _).no h1, ?_⟩, av⟩
 rw [fo] at h2 ⊢
 rintro ⟨w, i⟩ hw
 cases w with
 | false => rfl
 | true =>
   have hi := h.get (ma.1 hw)
   exact h2 (true, i) (ma.2 hi)
theorem Wv {n : Nat} : ∀ {m : List (Nat × cP J)}, Io n m = true -> ∀ e ∈ m, n <= e.1
 | [], _, _, h => by cases h
 | a :: r, h, e, he => by
   simp only [Io] at h
   split at h
   · rename_i q
     rcases dS.1 he with rfl | he
     · exact k3 q
     · exact Wv h e he
   · cases h
theorem pK.low {b eE : Nat} (hb : b <= eE) {B : List Bool} {o : Nat} {m : List (Nat × cE)} : ∀ {aT : cP J}, pK J eE B ρ fs o m aT -> pK J b B ρ fs o m aT
 | .cells w cs, ⟨a, ws, h1, h2, av, bc⟩ => ⟨a, ws, h1, h2, av, fun q => c4 hb (bc q)⟩
 | .row t s, ⟨v, h1, h2⟩ => ⟨v, h1, by
   unfold ku at h2 ⊢
   generalize s.map (J.enc t) = x at h2
   cases h2 with
   | nil => exact .nil
   | emp => exact .emp
   | row l ds h q => exact .row l ds h (c4 hb q)⟩
 | .mp k w x, ⟨a, h1, h2, av⟩ => ⟨a, h1, h2, c4 hb av⟩
theorem ai5 {A : Type} [aV A] {S : A -> Prop} (bm : gC J) (aJ : n0 S) (hT : as0 ad cr) (ae : ∀ j f, nth cr.fv j = some f -> ∃ w, fs[j]? = some w /\ oM ad F f.dQ f.rt f.f w) {ops : List b3} {fY : List Nat} {k : bH J -> A} {Q : X -> cb -> Heap -> Prop}
  (h : S (wm cr (ops.take (jX ops)) [] s fun az s => so cr (ops.drop (jX ops)) az { s with mem := [] } (List.replicate (jX ops) false) fun ar wr => Ny fY ops wr s.aF ar.mem (k { ar with mem := ar.mem ++ s.mem }))) (R : cl J b F fs s σ H G ρ)
  (dq : ∀ ar a7 H' G' cS, S (k ar) -> cl J b F fs ar a7 H' G' cS -> ρ <+: cS -> Fr s ar -> Q .normal a7 H') : ft ad b (.region ops (some fY)) σ H Q := by
 obtain ⟨ij, s1, qH, dV, p1, p2, bM, lu, rM, Ey, IQ⟩ := IP bm aJ hT ae h R (fun t v q => by cases q)
 refine Vg (jX ops) R.own rfl p1 fun hb => ?_
 have Ki : ∀ j f, nth cr.fv j = some f -> ∃ w, fs[j]? = some w /\ oM ad (eX s1 G F) f.dQ f.rt f.f w := fun j f q => by
  obtain ⟨w, ah, e2, b5⟩ := ae j f q
  exact ⟨w, ah, e2, fun H z q aD aP => b5 H z q (aD.sub (JD _ _)) aP⟩
 have N9 : cl J H.length (eX s1 G F) fs { s1 with mem := [] } dV H (fun _ => []) ρ := ⟨bM.aF, bM.vs, bM.own, Fk, fun _ q => (by cases q), fun _ _ q => (by cases q), bM.ea⟩
 refine A6 bm aJ hT Ki p2 (iq.refl _) N9 lu fun s2 kT H2 bq wy wr n2 al a2 eC a4 a5 => ?_
 unfold Ny at al
 split at al
 · rename_i ah e2
   have hge := Wv e2
   have no : ∀ {q}, q < s1.aF -> bI s2.mem q = none := fun {q} bD => VW fun hm => by
    obtain ⟨e, he, rfl⟩ := ey.1 hm
    exact absurd (hge e he) (Nat.not_le.2 bD)
   refine ⟨ai4 a2 ah, dq _ kT H2 (fun q => if q < s1.aF then G q else bq q) wy al ⟨eC.aF, eC.vs, ?_, ?_, fun e he => ?_, fun o aT ho => ?_, eC.ea⟩ a4 (rM.trans ?_)⟩
   · have := eC.own
     unfold eX at this ⊢
     simp only at this ⊢
     rw [oY, mb]
     have b5 : s2.mem.map (fun e => if e.1 < s1.aF then G e.1 else bq e.1) = s2.mem.map fun e => bq e.1 := pX fun e he => if_neg (Nat.not_lt.2 (hge e he))
     have cU : s1.mem.map (fun e => if e.1 < s1.aF then G e.1 else bq e.1) = s1.mem.map fun e => G e.1 := pX fun e he => if_pos (bM.lt e he)
     rw [b5, cU]
     exact this
   · simp only [oY]
     refine Fe.2 ⟨eC.dE, bM.dE, fun x hx y hy e => ?_⟩
     obtain ⟨p, hp, rfl⟩ := ey.1 hx
     obtain ⟨q, bD, rfl⟩ := ey.1 hy
     have := hge p hp
     have := bM.lt q bD
     omega
   · rcases jV.1 he with he | he
     · exact eC.lt e he
     · exact pY (bM.lt e he) a5.aF
   · have ho : bI (s2.mem ++ s1.mem) o = some aT := ho
     rw [H7] at ho
     cases hm : bI s2.mem o with
     | some c =>
       rw [hm] at ho
       cases ho
       simp only [if_neg (Nat.not_lt.2 (hge _ (ky hm)))]
       exact (eC.mem o aT hm).low hb
     | none =>
       rw [hm] at ho
       simp only [if_pos (bM.lt _ (ky ho))]
       exact (bM.mem o aT ho).mono a5.aL a4
   · exact ⟨a5.vs, a5.dA, a5.cZ, a5.aL, a5.aF, fun o w cs hm => ⟨cs, by
      show bI (s2.mem ++ s1.mem) o = _
      rw [H7, no (bM.lt _ (ky hm))]; exact hm, rfl, fun _ _ => rfl⟩, fun o aT hc hm => .inl (by
      show bI (s2.mem ++ s1.mem) o = _
      rw [H7, no (bM.lt _ (ky hm))]; exact hm)⟩
 · exact absurd al aJ.bad
theorem iq.pre : ∀ (l : List Bool) {r n6 : List Bool}, iq r n6 -> iq (l ++ r) (l ++ n6)
 | [], _, _, h => h
 | _ :: l, _, _, h => .cons id (iq.pre l h)
theorem avB {fY : List Nat} {ops : List b3} {wr n2 : List Bool} {n m : Nat} (h : iq wr n2) (ho : atb fY ops n2 n m = true) : atb fY ops wr n m = true := by
 unfold atb at ho ⊢
 rw [fo] at ho ⊢
 rintro ⟨w, i⟩ hw
 cases w with
 | false => rfl
 | true => exact ho (true, i) (ma.2 (h.get (ma.1 hw)))
theorem avC {A : Type} [aV A] {S : A -> Prop} (bm : gC J) (aJ : n0 S) (hT : as0 ad cr) (ae : ∀ j f, nth cr.fv j = some f -> ∃ w, fs[j]? = some w /\ oM ad F f.dQ f.rt f.f w) {ops : List b3} {fY : List Nat} {n m : Nat} {k : bH J -> A} {Q : X -> cb -> Heap -> Prop}
  (h : S (atO cr fY ops n m s k)) (R : cl J b F fs s σ H G ρ) (dq : ∀ ar a7 H' G' cS, S (k ar) -> cl J b F fs ar a7 H' G' cS -> ρ <+: cS -> Fr s ar -> Q .normal a7 H') : ft ad b (.region ops (some fY)) σ H Q := by
 unfold atO at h
 split at h
 · exact absurd h aJ.bad
 rename_i o r hr
 have sz : ops.take n ++ o :: (r.take m ++ r.drop m) = ops := by rw [PA, <- hr, PA]
 obtain ⟨ij, s1, qH, dV, p1, p2, bM, lu, rM, Ey, IQ⟩ := IP (bF := nN) bm aJ hT ae h R (fun t v q => by cases q)
 have bt : eX s1 G F = eX s G F := by unfold eX; rw [Ey]
 unfold aua at p2
 split at p2
 · rename_i d f aY
   split at p2
   · rename_i i v QT IA
     split at p2
     · rename_i p hp
       split at p2
       · rename_i x hx
         obtain ⟨z, aP, p2⟩ := aJ.db p2
         obtain ⟨cL, avz, dX, hn⟩ := hT.2 _ (ky hp)
         have ao := A0 bM lu IA
         obtain ⟨sJ, rfl⟩ : ∃ sJ, aY = [sJ] := by
          have := ao.length
          match aY, this with
          | [sJ], _ => exact ⟨sJ, rfl⟩
         cases ao with
         | cons af _ =>
           have j4 := dm bM lu QT
           generalize atT : bX qH dV f = wf at j4
           cases j4 with
           | fn hl =>
             cases hl
             refine auz sz R.own p1 rfl fun hb => ?_
             obtain ⟨v', H1, m', dL, e7, gE, jG⟩ := at1 (b := b) dX hn aP bM.own atT (NN hx af) (bm.bO p.1) (bm.ok p.1) hb
             have atc : Own H1 (eX s1 G F) := gE.sub (auo ..)
             have atU : cl J b F fs { s1 with aF := s1.aF + 1 } dV H1 G (ρ ++ [v']) := ⟨by simp [bM.aF], fun t v h => (bM.vs t v h).mono eY (iL _ _), atc, bM.dE, fun e he => JN (bM.lt e he), fun o aT h => (bM.mem o aT h).mono eY (iL _ _), bM.ea⟩
             have atV : Fr s1 { s1 with aF := s1.aF + 1 } := ⟨fun _ _ => rfl, fun _ h => h, fun _ h => h, eY, Fm _, fun o w cs hm => ⟨cs, hm, rfl, fun _ _ => rfl⟩, fun _ _ _ h => .inl h⟩
             have rP : ∀ t v, bI ij t = some v -> bY J s1.aL (ρ ++ [v']) fs v (qH t) := fun t v q => (lu t v q).mono eY (iL _ _)
             have na : bY J s1.aL (ρ ++ [v']) fs (.row s1.aF) v' := .row (bM.new v')
             have fin : ∀ {atW : l5 J} {s2 : bH J} {atX kT : cb}, cl J b F fs s2 kT H1 G (ρ ++ [v']) -> (∀ t v, bI atW t = some v -> bY J s2.aL (ρ ++ [v']) fs v (atX t)) -> Fr s1 s2 -> s2.mem = s1.mem -> s2.aF = s1.aF + 1 ->
               S (wm cr (r.take m) atW s2 fun az s2 => so cr (r.drop m) az { s2 with mem := (s1.aF, .row p.1 z) :: s2.mem } (List.replicate (r.take m).length false ++ true :: List.replicate (ops.take n).length false) fun ar wr => match atb fY ops wr (ops.take n).length ((ops.take n).length + 1 + (r.take m).length) with
                 | true => k ar
                 | false => aV.bad) ->
               ∃ asS rX, ig (cK ad) (eX s G F) (r.take m) atX kT asS rX /\ Op ad b (r.drop m) asS rX H1 (List.replicate (r.take m).length false ++ fJ H H1 H.length :: List.replicate (ops.take n).length false) (fun a7 H' wr => atb fY ops wr (ops.take n).length ((ops.take n).length + 1 + (r.take m).length) = true /\ Q .normal a7 H') := by
              intro atW s2 atX kT eC avD eT hm mQ h2
              obtain ⟨asS, eV, avE, rX, q1, aS, pr, cR, e8, hC, nM⟩ := IP bm aJ hT ae h2 eC avD
              have avF : eX s2 G F = eX s G F := by unfold eX; rw [hm, Ey]
              have atY : eV.mem = s1.mem := hC.trans hm
              have aH : ∀ e ∈ eV.mem, e.1 < s1.aF := fun e he => bM.lt e (by rw [<- atY]; exact he)
              have vT : cl J b F fs { eV with mem := (s1.aF, .row p.1 z) :: eV.mem } rX H1 (fun o => if o = s1.aF then m' else G o) (ρ ++ [v']) := by
               refine ⟨pr.aF, pr.vs, ?_, ?_, fun e he => ?_, fun o c h => ?_, pr.ea⟩
               · have : eX { eV with mem := (s1.aF, cP.row p.1 z) :: eV.mem } (fun o => if o = s1.aF then m' else G o) F = m' :: eX s1 G F := by
                  unfold eX
                  simp only [eD, if_pos, oX]
                  rw [atY]
                  congr 2
                  refine pX fun e he => ?_
                  rw [if_neg (p5 (bM.lt e he))]
                 rw [this]; exact gE
               · show (s1.aF :: eV.mem.map Prod.fst).Nodup
                 refine vj.2 ⟨fun h => ?_, pr.dE⟩
                 obtain ⟨e, he, q⟩ := ey.1 h
                 exact absurd q (p5 (aH e he))
               · show e.1 < eV.aF
                 rw [nM, mQ]
                 rcases dS.1 he with rfl | he
                 · exact wZ _
                 · exact JN (aH e he)
               · have h : bI ((s1.aF, cP.row p.1 z) :: eV.mem) o = some c := h
                 rw [gd] at h
                 split at h
                 · rename_i e; cases h; subst e
                   simp only [if_true]
                   exact ⟨v', bM.new v', e7⟩
                 · rename_i e
                   simp only [ki e, if_false]
                   exact pr.mem o c h
              have f3 := eT.trans e8
              have bA : ∀ {o} {c : cP J}, bI s1.mem o = some c -> bI ((s1.aF, cP.row p.1 z) :: eV.mem) o = some c := fun {o c} hm => by
               rw [gd, if_neg (Nat.ne_of_gt (bM.lt _ (ky hm))), atY]; exact hm
              have f4 : Fr s1 { eV with mem := (s1.aF, .row p.1 z) :: eV.mem } := ⟨f3.vs, f3.dA, f3.cZ, f3.aL, f3.aF, fun o w cs hm => ⟨cs, bA hm, rfl, fun _ _ => rfl⟩, fun o c hc hm => .inl (bA hm)⟩
              rw [avF] at q1
              refine ⟨avE, rX, q1, A6 bm aJ hT ae aS (iq.pre _ (.cons (fun _ => rfl) (iq.refl _))) vT cR fun ar a7 H' G' cS wr n2 al a2 ajX a4 a5 => ?_⟩
              split at al
              · rename_i e
                exact ⟨avB a2 e, dq _ _ _ _ _ al ajX ((iL _ _).trans a4) (rM.trans (f4.trans a5))⟩
              · exact absurd al aJ.bad
             rw [bt] at atc
             match d, p2 with
             | none, p2 =>
               obtain ⟨asS, rX, aj8, as2⟩ := fin atU rP atV rfl rfl p2
               exact ⟨v', H1, H.length, asS, rX, hb, c4 hb jG, dL, atc, aj8, as2⟩
             | some (t, false), p2 =>
               obtain ⟨asS, rX, aj8, as2⟩ := fin atU (V8 rP na) atV rfl rfl p2
               exact ⟨v', H1, H.length, asS, rX, hb, c4 hb jG, dL, atc, aj8, as2⟩
             | some (t, true), p2 =>
               obtain ⟨asS, rX, aj8, as2⟩ := fin (atU.put na) rP (atV.trans VX) rfl rfl p2
               exact ⟨v', H1, H.length, asS, rX, hb, c4 hb jG, dL, atc, aj8, as2⟩
       · exact absurd p2 aJ.bad
     · exact absurd p2 aJ.bad
   · exact absurd p2 aJ.bad
 · exact absurd p2 aJ.bad
theorem aDr {c : cm} {Q : X -> cb -> Heap -> Prop} (h : ft ad b c σ H (andThen ad b (.loop c) Q)) : ft ad b (.loop c) σ H Q := fun aw low h1 h2 av => by
 obtain ⟨x, dI, H', low', a7, ah, e2, b5, cU, ej⟩ := h aw low h1 h2 av
 rw [se, ah]
 cases x with
 | normal => exact ej dI low' e2 b5 cU
 | exit i => exact ⟨_, _, _, _, a7, rfl, e2, b5, cU, ej⟩
 | ret => exact ⟨_, _, _, _, a7, rfl, e2, b5, cU, ej⟩
theorem ayT (bm : gC J) {f : l7 J -> {A : Type} -> [aV A] -> bH J -> (X -> bH J -> A) -> A} {a : cm} (ih : ∀ {an : l7 J} {A : Type} [aV A] {S : A -> Prop}, n0 S -> ∀ {s : bH J} {k : X -> bH J -> A} {σ : cb} {H : Heap} {G : Nat -> List (Nat × cE)} {ρ : List V} {Q : X -> cb -> Heap -> Prop}, S (f an s k) -> cl J b F fs s σ H G ρ ->
   (∀ x ar a7 H' G' cS, S (k x ar) -> cl J b F fs ar a7 H' G' cS -> ρ <+: cS -> Fr s ar -> Q x a7 H') -> ft ad b a σ H Q) {hd : ni J} {os : AY J} {x : l7 J} {A : Type} [aV A] {S : A -> Prop} (aJ : n0 S) {s : bH J} {k : X -> bH J -> A} {σ : cb} {H : Heap} {G : Nat -> List (Nat × cE)} {ρ : List V} {Q : X -> cb -> Heap -> Prop}
  (h : S (Jn f (je a) hd os x s k)) (R : cl J b F fs s σ H G ρ) (dq : ∀ x ar a7 H' G' cS, S (k x ar) -> cl J b F fs ar a7 H' G' cS -> ρ <+: cS -> Fr s ar -> Q x a7 H') : ft ad b (.loop a) σ H Q := by
 unfold Jn at h
 split at h
 · exact absurd h aJ.bad
 · rename_i ai6 ai7
   obtain ⟨o, ho, h⟩ := aJ.db h
   refine dj _ (fun st a7 H' => ∃ G' cS, cl J b F fs (fresh (enter (je a) [] hd st s)) a7 H' G' cS /\ ρ <+: cS)
    (fun o x a7 H' => ∃ s2 G' cS, (S (leave (fq hd ++ je a) (hf hd) s k os o) -> S (k x s2)) /\ cl J b F fs s2 a7 H' G' cS /\ ρ <+: cS /\ Fr s s2) ho ?_ ?_ ?_
   · obtain ⟨G', cS, bG, ch⟩ := IK (W := je a) (M := []) bm R R eY .rfl ai7
     exact ⟨G', cS, bG.IJ, ch⟩
   · rintro st dV H1 r ⟨ax, jv, bM, Ww⟩ hr
     refine ih (NC r) hr bM fun x' s2 kT H2 bq wy al a2 a3 a4 => ?_
     have base : hh (fq hd ++ je a) ([] ++ hf hd) s (fresh (enter (je a) [] hd st s)) := by
      have := Wl (W := je a) (M := []) R.lt (x := st)
      exact ⟨this.vs, this.aL, this.aF, this.mem, this.row⟩
     have mQ : s.aF <= (fresh (enter (je a) [] hd st s)).aF := base.aF
     have Wx : ∀ {y : yw J (yA os)}, yB s.aL.length s.aF (fq hd ++ je a) (hf hd) x' s2 os = some y -> ∃ eV G' cS, (S (leave (fq hd ++ je a) (hf hd) s k os y) -> S (k x' eV)) /\ cl J b F fs eV kT H2 G' cS /\ ρ <+: cS /\ Fr s eV := by
      intro y hy
      obtain ⟨sh, z, g1, g2⟩ := N3 (S := S) (s := s) (k := k) hy
      obtain ⟨q1, aS, bZ⟩ := N2 g1
      have gp : hh (fq sh ++ (fq hd ++ je a)) (hf hd ++ hf sh) s s2 :=
       base.pN (by simp) a4 R.lt (fun t ht => pW _ ht) (fun p hp => wX _ (by simpa using hp)) (fun t ht => pW _ (q1 t ht)) aS
      obtain ⟨G', cS, bG, ch⟩ := IK bm R a2 (Ww.trans a3) gp bZ
      exact ⟨_, G', cS, g2, bG, ch, Wm R.lt⟩
     cases x' with
     | normal =>
       simp only at al
       split at al
       · rename_i y hy
         cases al
         obtain ⟨q1, aS, bZ⟩ := N2 hy
         have gp : hh (fq hd ++ je a) ([] ++ hf hd) s s2 := base.pN (by simp) a4 R.lt (fun _ h => h) (fun _ h => h) (fun t ht => pW _ (q1 t ht)) aS
         obtain ⟨G', cS, bG, ch⟩ := IK bm R a2 (Ww.trans a3) gp bZ
         exact ⟨rfl, G', cS, bG.IJ, ch⟩
       · cases al
     | exit i =>
       simp only at al
       split at al
       · rename_i y hy; cases al; exact ⟨nofun, Wx hy⟩
       · cases al
     | ret =>
       simp only at al
       split at al
       · rename_i y hy; cases al; exact ⟨nofun, Wx hy⟩
       · cases al
   · rintro x' dV H1 ⟨s2, bq, wy, dL, e7, gE, jG⟩
     exact dq _ _ _ _ _ _ (dL h) e7 gE jG
set_option maxHeartbeats 1000000 in
theorem wz (bm : gC J) (hT : as0 ad cr) (ae : ∀ j f, nth cr.fv j = some f -> ∃ w, fs[j]? = some w /\ oM ad F f.dQ f.rt f.f w) :
  ∀ {c : cm} {an : l7 J} {A : Type} [aV A] {S : A -> Prop}, n0 S -> ∀ {s : bH J} {k : X -> bH J -> A} {σ : cb} {H : Heap} {G : Nat -> List (Nat × cE)} {ρ : List V} {Q : X -> cb -> Heap -> Prop}, S (kx cr c an s k) -> cl J b F fs s σ H G ρ ->
    (∀ x ar a7 H' G' cS, S (k x ar) -> cl J b F fs ar a7 H' G' cS -> ρ <+: cS -> Fr s ar -> Q x a7 H') -> ft ad b c σ H Q
 | .skip, an, A, _, S, aJ, s, k, σ, H, G, ρ, Q, h, R, dq => xY (dq _ _ _ _ _ _ h R eY .rfl)
 | .ret, an, A, _, S, aJ, s, k, σ, H, G, ρ, Q, h, R, dq => xZ (dq _ _ _ _ _ _ h R eY .rfl)
 | .exit i, an, A, _, S, aJ, s, k, σ, H, G, ρ, Q, h, R, dq => GP (dq _ _ _ _ _ _ h R eY .rfl)
 | .region ops fY, an, A, _, S, aJ, s, k, σ, H, G, ρ, Q, h, R, dq => by
   unfold kx at h
   split at h
   · exact ai5 (k := fun s => k .normal s) bm aJ hT ae h R fun ar a7 H' G' cS al a2 a3 a4 => dq _ _ _ _ _ _ al a2 a3 a4
   · exact avC (k := fun s => k .normal s) bm aJ hT ae h R fun ar a7 H' G' cS al a2 a3 a4 => dq _ _ _ _ _ _ al a2 a3 a4
   · exact Wr (k := fun s => k .normal s) bm aJ hT ae h R fun ar a7 H' G' cS al a2 a3 a4 => dq _ _ _ _ _ _ al a2 a3 a4
 | .seq a c, an, A, _, S, aJ, s, k, σ, H, G, ρ, Q, h, R, dq => by
   have snd : ∀ {y : l7 J} {x : X} {ar : bH J} {a7 : cb} {H' : Heap} {G' : Nat -> List (Nat × cE)} {cS : List V}, S (match x with | .normal => kx cr c y ar k | x => k x ar) -> cl J b F fs ar a7 H' G' cS -> ρ <+: cS -> Fr s ar -> andThen ad b c Q x a7 H' := by
    intro y x ar a7 H' G' cS al a2 a3 a4
    cases x with
    | normal => exact wz bm hT ae aJ al a2 fun x s2 kT H2 bq wy ec gJ ju lb => dq _ _ _ _ _ _ ec gJ (a3.trans ju) (a4.trans lb)
    | exit i => exact dq _ _ _ _ _ _ al a2 a3 a4
    | ret => exact dq _ _ _ _ _ _ al a2 a3 a4
   unfold kx at h
   split at h
   · rename_i os x y
     obtain ⟨o, ho, h⟩ := aJ.db h
     refine oF (wz bm hT ae (NC o) ho R.IJ fun x' s1 dV H1 ax jv al a2 a3 a4 => ?_)
     obtain ⟨sh, z, g1, g2⟩ := N3 (S := S) (s := s) (k := fun x ar => match x with | .normal => kx cr c y ar k | x => k x ar) al
     obtain ⟨q1, aS, bZ⟩ := N2 g1
     have gp : hh (fq sh ++ je a) ([] ++ hf sh) s s1 := by
      have := a4.gp (W := fq sh ++ je a) (M := [] ++ hf sh) R.lt (fun t ht => pW _ (q1 t ht)) aS
      exact ⟨this.vs, this.aL, this.aF, this.mem, this.row⟩
     obtain ⟨G', cS, bG, ch⟩ := IK bm R a2 a3 gp bZ
     exact snd (g2 h) bG ch (Wm R.lt)
   · rename_i sl y
     split at h
     · rename_i ops fY
       unfold VD at h
       split at h
       · rename_i hw
         obtain ⟨s1, p1, p2, p3⟩ := N5 hw
         refine oF (Wr (S := fun q : nX (bH J) => q.val = some s1) (k := fun s => nX.leaf s) (s := { s with dA := [], cZ := [] }) bm (aim s1) hT ae p1 R.Wu fun ar a7 H' G' cS al a2 a3 a4 => ?_)
         cases al
         have gp : hh (nZ ops) [] s s1 := by
          have := a4.gp (W := nZ ops) (M := []) R.lt p2 (fun o j q => by rw [p3] at q; cases q)
          exact ⟨this.vs, this.aL, this.aF, this.mem, this.row⟩
         have hb := Wf R a2 a3 gp
         have pb : cl J b F fs { blank (nZ ops) [] s with dA := sl ++ (nZ ops ++ s.dA) } a7 H' G' ρ := hb.Wu
         obtain ⟨jw, ah, e2, b5, cU, ej⟩ := Wq aJ a2 a3 gp.aL p1 pb (eY) (by rw [R.aF]; exact h)
         have w : hh (sl ++ (nZ ops ++ s.dA)) [] s jw := by
          have aC := (Wc (s := s) (W := nZ ops) (M := [])).wide (W' := sl ++ (nZ ops ++ s.dA)) (M' := []) (fun t ht => pW _ (wX _ ht)) (fun _ q => q)
          have bB := b5.wide (W' := sl ++ (nZ ops ++ s.dA)) (M' := []) (fun t ht => wX _ ht) (fun _ q => q)
          exact hh.trans (s1 := { blank (nZ ops) [] s with dA := sl ++ (nZ ops ++ s.dA) }) ⟨aC.vs, aC.aL, aC.aF, aC.mem, aC.row⟩ bB
         refine snd (x := .normal) ah e2 eY ⟨fun t ht => w.vs t fun q => ht (by rw [cU]; exact q), fun t ht => by rw [cU]; exact pW _ (pW _ ht), fun q bD => by rw [ej]; exact bD, w.aL, w.aF, fun o wr cs hm => ?_, fun o aT hc hm => .inl ((w.row o aT hc hm).resolve_right (by simp))⟩
         obtain ⟨cs', m1, m2, m3⟩ := w.mem o wr cs hm
         exact ⟨cs', m1, m2, fun j _ => m3 j (by simp)⟩
       · exact absurd h aJ.bad
     · exact absurd h aJ.bad
   · exact oF (wz bm hT ae aJ h R fun x ar a7 H' G' cS al a2 a3 a4 => snd al a2 a3 a4)
 | .cond x a c, an, A, _, S, aJ, s, k, σ, H, G, ρ, Q, h, R, dq => by
   simp only [kx] at h
   split at h
   · exact absurd h aJ.bad
   · rename_i v af
     obtain ⟨β, s1, ah, e2, b5, cU⟩ := A1 aJ h R.ea (dm (bF := nN) R (fun t v q => by cases q) af)
     rcases cU with ⟨rfl, h⟩ | ⟨rfl, h⟩
     · exact x0 ah rfl (wz bm hT ae aJ h (R.ei e2) fun x s2 kT H2 bq wy ec gJ ju lb => dq _ _ _ _ _ _ ec gJ ju (e2.bN.trans lb))
     · exact x1 ah rfl (wz bm hT ae aJ h (R.ei e2) fun x s2 kT H2 bq wy ec gJ ju lb => dq _ _ _ _ _ _ ec gJ ju (e2.bN.trans lb))
 | .block id a, an, A, _, S, aJ, s, k, σ, H, G, ρ, Q, h, R, dq => by
   simp only [kx] at h
   exact CT (wz bm hT ae aJ h R fun x s2 kT H2 bq wy ec gJ ju lb => dq _ _ _ _ _ _ ec gJ ju lb)
 | .loop a, an, A, _, S, aJ, s, k, σ, H, G, ρ, Q, h, R, dq => by
   unfold kx at h
   split at h
   · exact ayT bm (fun {_ _ _ _} aJ {_ _ _ _ _ _ _} h R dq => wz bm hT ae aJ h R dq) aJ h R dq
   · refine aDr (wz bm hT ae aJ h R fun x ar a7 H' G' cS al a2 a3 a4 => ?_)
     cases x with
     | normal => exact ayT bm (fun {_ _ _ _} aJ {_ _ _ _ _ _ _} h R dq => wz bm hT ae aJ h R dq) aJ al a2 fun x s2 kT H2 bq wy ec gJ ju lb => dq _ _ _ _ _ _ ec gJ (a3.trans ju) (a4.trans lb)
     | exit i => exact dq _ _ _ _ _ _ al a2 a3 a4
     | ret => exact dq _ _ _ _ _ _ al a2 a3 a4
   · exact absurd h aJ.bad
 | .w4 .., an, A, _, S, aJ, s, k, σ, H, G, ρ, Q, h, R, dq => absurd h (by unfold kx; exact aJ.bad)
 | .rangeFunc .., an, A, _, S, aJ, s, k, σ, H, G, ρ, Q, h, R, dq => absurd h (by unfold kx; exact aJ.bad)
 | .fail, an, A, _, S, aJ, s, k, σ, H, G, ρ, Q, h, R, dq => absurd h (by unfold kx; exact aJ.bad)
end
end Go.Abs.gB
