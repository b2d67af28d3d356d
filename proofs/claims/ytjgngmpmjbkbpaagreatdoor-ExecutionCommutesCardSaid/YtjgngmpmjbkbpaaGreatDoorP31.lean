/- Texts of this claim, joined and written short by a program. -/
import Derived.Test.YtjgngmpmjbkbpaaGreatDoorP30
import Derived.Test.YtjgngmpmjbkbpaaGreatDoorP00
set_option linter.unusedVariables false
set_option linter.unusedSimpArgs false
set_option linter.unusedSectionVars false
namespace Go.Abs.gB
open Go Go.Abs
section
variable {J : hP}
def iY : (ts : List Nat) -> dk J ts -> List V
 | [], _ => []
 | t :: r, x => J.enc t (nY r x) :: iY r (wi r x)
def oL (ts : List Nat) (x : dk J ts) : V := one (iY ts x)
def yF : (ts : List Nat) -> dk J ts -> List Nat -> cW
 | [], _, _ => []
 | _ :: _, _, [] => []
 | t :: r, x, a :: aY => [(a, .cells (aG (J.enc t (nY r x))))] :: yF r (wi r x) aY
def oM (ad : Nat -> Option ca) (F : cW) (dQ : List Nat) (rt : Nat) (f : dk J dQ -> Option (J.ay rt)) (w : V) : Prop :=
 (∀ H low, gl H low w = some (w, H, low)) /\ ∀ H z q, Own H F -> f z = some q -> cK ad w (iY dQ z) H = some (J.enc rt q, H, H.length)
def rL (ad : Nat -> Option ca) (F : cW) : (aY : List kY) -> kZ J aY -> List V -> Prop
 | [], _, ws => ws = []
 | .v t :: r, x, ws => ∃ fb, ws = J.enc t x.1 :: fb /\ rL ad F r x.2 fb
 | .f dQ rt :: r, x, ws => ∃ w fb, ws = w :: fb /\ oM ad F dQ rt x.1 w /\ rL ad F r x.2 fb
abbrev yG (aY : List Nat) : List V := aY.map fun a => V.ptr a 0
def hg (ad : Nat -> Option ca) (e : bR J) : Prop := ∀ (H : Heap) (F : cW) (c : dk J e.caps) (a : kZ J e.args) (aY : List Nat) (ws : List V) (r : dk J e.res),
 aY.length = e.caps.length -> Own H (yF e.caps c aY ++ F) -> rL ad F e.args a ws -> e.fn c a = some r -> cK ad (.fn e.id [] (yG aY)) ws H = some (oL e.res r, H, H.length)
def atD (J : hP) (ad : Nat -> Option ca) (i : Nat) (p : Nat × Nat) : Prop := ∃ n z, ad i = some (.code (as1 n (J.es p.1) p.2 z)) /\ 1 <= n
def as0 (ad : Nat -> Option ca) (cr : pG J) : Prop := (∀ e ∈ cr.T, hg ad e) /\ ∀ q ∈ cr.asT, atD J ad q.1 q.2
theorem El {a : Nat} : ∀ (r : List Nat) (x : J.ay a) (y : dk J r), nY r (wh r x y) = x
 | [], _, _ => rfl
 | _ :: _, _, _ => rfl
theorem Em {a : Nat} : ∀ (r : List Nat) (x : J.ay a) (y : dk J r), wi r (wh r x y) = y
 | [], _, () => rfl
 | _ :: _, _, _ => rfl
variable {b : Nat} {F : cW} {fs : List V} {s ar : bH J} {σ bF : cb} {H : Heap} {G : Nat -> List (Nat × cE)} {ρ : List V} {az : l5 J} {A : Type} [aV A] {S : A -> Prop} {ad : Nat -> Option ca} {cr : pG J}
theorem Iv (bm : gC J) {B : List Bool} : ∀ {ts : List Nat} {vs : List (aN J.ay)} {ws : List V} {x : dk J ts}, qE B ts vs = some x -> bp J B ρ fs vs ws -> ws = iY ts x
 | [], _, _, _, h, .nil => rfl
 | [], _, _, _, h, .cons _ _ => by cases h
 | _ :: _, _, _, _, h, .nil => by cases h
 | t :: ts, _, _, _, h, .cons af r => by
   simp only [qE] at h
   split at h
   · cases h
   · rename_i x e
     split at h
     · cases h
     · rename_i l e2
       cases h
       simp only [iY, El, Em]
       rw [bm.iH _ _ _ _ _ _ _ af e, Iv bm e2 r]
theorem VP (bm : gC J) : ∀ {ts : List Nat} {x : dk J ts} {s : bH J} {k : List (aN J.ay) -> bH J -> A}, S (elems ts x s k) -> ∃ vs ar, S (k vs ar) /\ jf s ar /\ bp J ar.aL ρ fs vs (iY ts x)
 | [], _, s, _, h => ⟨[], s, h, .rfl, .nil⟩
 | t :: ts, x, s, k, h => by
   obtain ⟨v, s1, h1, cn, v1⟩ := yE (ρ := ρ) (fs := fs) bm h
   obtain ⟨vs, s2, h2, dZ, v2⟩ := VP bm h1
   exact ⟨_, s2, h2, cn.trans dZ, .cons (v1.mono dZ.aL eY) v2⟩
theorem VQ (bm : gC J) {ts : List Nat} {x : dk J ts} {k : aN J.ay -> bH J -> A} (h : S (Nr ts x s k)) : ∃ v ar, S (k v ar) /\ jf s ar /\ bY J ar.aL ρ fs v (oL ts x) := by
 obtain ⟨vs, s1, h1, cn, v1⟩ := VP (ρ := ρ) (fs := fs) bm h
 split at h1
 · rename_i v
   refine ⟨_, s1, h1, cn, ?_⟩
   unfold oL
   generalize iY ts x = ws at v1
   cases v1 with
   | cons af r => cases r; exact af
 · rename_i bA
   refine ⟨_, s1, h1, cn, ?_⟩
   unfold oL
   generalize iY ts x = ws at v1
   have : one ws = .ba ws := by
    match ws, v1 with
    | [], _ => rfl
    | [w], .cons (v := v) af .nil => exact absurd rfl (bA v)
    | _ :: _ :: _, _ => rfl
   rw [this]; exact .ba v1
theorem _root_.Go.Abs.Own.sub {ms hF : cW} (h : Own H ms) (hs : hF.Sublist ms) : Own H hF := ⟨fun m hm => h.1 m (hs.subset hm), h.2.sublist (hs.map _)⟩
theorem ait {B : List Bool} {c : aN J.ay} {w : V} {l : List (aN J.ay)} (h : qD c = some l) (hn : ∀ vs, c ≠ .agg vs) (af : bY J B ρ fs c w) : aG w = [w] := by
 cases af <;> simp only [qD] at h
 case agg => exact absurd rfl (hn _)
 case ba => rfl
 case k =>
  split at h
  · cases h
  · cases w <;> first | rfl | simp_all
 case sl => exact UT _ _ _
 case row => cases h
 case fv => cases h
 case kd => cases h
 all_goals rfl
theorem aiu (R : cl J b F fs s σ H G ρ) {v c : aN J.ay} {w : V} (h : Np s.mem v = some c) (af : bY J s.aL ρ fs v w) :
  ∃ o a aT w', v = .ptr o 0 /\ w = .ptr a 0 /\ bI s.mem o = some aT /\ bY J s.aL ρ fs c w' /\ G o = [(a, .cells (aG w'))] := by
 unfold Np at h
 split at h
 · rename_i o
   cases af with
   | ptr ho =>
     split at h
     · rename_i wr dL hm
       obtain ⟨a, ws, q1, aS, bZ, cR, -⟩ := R.cells hm
       rw [q1] at ho
       cases ho
       split at h
       · cases h
       · rename_i hn
         split at h
         · rename_i l hl
           cases h
           cases cR with
           | cons h1 r =>
             cases r
             exact ⟨o, _, _, _, rfl, rfl, hm, h1, by rw [aS, ait hl hn h1]⟩
         · cases h
     · rename_i wr cs bA hm
       obtain ⟨a, ws, q1, aS, bZ, cR, -⟩ := R.cells hm
       rw [q1] at ho
       cases ho
       cases h
       exact ⟨o, _, _, _, rfl, rfl, hm, .agg cR, aS⟩
     · cases h
 · cases h
theorem NH (bm : gC J) (R : cl J b F fs s σ H G ρ) : ∀ {cs vs : List (aN J.ay)} {ws : List V} {ts : List Nat} {c : dk J ts} {l : List Nat}, bp J s.aL ρ fs cs ws -> D7 s.mem cs = some vs -> D6 cs l = true -> qE s.aL ts vs = some c ->
  ∃ (aY ks : List Nat), ws = yG aY /\ aY.length = ts.length /\ ks.map (fun k => (eX s G F).getD k []) = yF ts c aY /\ ks.Nodup /\ ∀ k ∈ ks, ∃ e : Nat × cP J, s.mem[k]? = some e /\ e.1 ∉ l
 | _, _, _, ts, c, l, .nil, h1, h2, av => by
   cases h1
   cases ts with
   | nil => exact ⟨[], [], rfl, rfl, rfl, Fk, fun k ai => by cases ai⟩
   | cons t ts => cases av
 | v :: cs, vs, _, ts, c, l, .cons af r, h1, h2, av => by
   simp only [D7] at h1
   split at h1
   · cases h1
   · rename_i dL ah
     split at h1
     · cases h1
     · rename_i b2 e2
       cases h1
       obtain ⟨o, a, aT, w', rfl, rfl, hm, hc, Aa⟩ := aiu R ah af
       simp only [D6] at h2
       split at h2
       · cases h2
       · rename_i iI
         have iI : o ∉ l := fun q => by rw [(mem_iff o l).2 q] at iI; cases iI
         cases ts with
         | nil => cases av
         | cons t ts =>
           simp only [qE] at av
           split at av
           · cases av
           · rename_i x ex
             split at av
             · cases av
             · rename_i y lk
               cases av
               obtain ⟨aY, ks, p1, p2, p3, lu, rM⟩ := NH bm R r e2 h2 lk
               obtain ⟨k, ai, aH, En, hid⟩ := R.at hm
               refine ⟨a :: aY, k :: ks, by rw [p1]; rfl, by simp [p2], ?_, ?_, ?_⟩
               · simp only [eD, yF, El, Em, p3]
                 congr 1
                 rw [Bu, ai, Aa, bm.iH _ _ _ _ _ _ _ hc ex]; rfl
               · refine vj.2 ⟨fun ee => ?_, lu⟩
                 obtain ⟨e, q1, aS⟩ := rM k ee
                 rw [oV aH] at q1
                 cases q1
                 exact aS (by rw [hid]; simp)
               · intro bs hk'
                 rcases dS.1 hk' with rfl | hk'
                 · exact ⟨_, oV aH, by rw [hid]; exact iI⟩
                 · obtain ⟨e, q1, aS⟩ := rM bs hk'
                   exact ⟨e, q1, fun q => aS (k5 _ q)⟩
theorem VR : ∀ (ts : List Nat) (c : dk J ts), yF ts c [] = []
 | [], _ => rfl
 | _ :: _, _ => rfl
theorem aiv {i : Nat} {ws : List V} (H : Heap) (low : Nat) : gl H low (.fn i [] ws) = some (.fn i [] ws, H, low) := by
 unfold gl; simp only [eg]; split <;> rfl
theorem NI {F : cW} : ∀ (dQ : List Nat) (z : dk J dQ), rL ad F (dQ.map kY.v) (Ie dQ z) (iY dQ z)
 | [], _ => rfl
 | t :: r, z => ⟨_, rfl, NI r _⟩
theorem aiw (bm : gC J) (R : cl J b F fs s σ H G ρ) (hT : as0 ad cr) (ae : ∀ j f, nth cr.fv j = some f -> ∃ w, fs[j]? = some w /\ oM ad F f.dQ f.rt f.f w)
  {dQ : List Nat} {rt : Nat} {v : aN J.ay} {w : V} {f : dk J dQ -> Option (J.ay rt)} (h : Nq cr s dQ rt v = some f) (af : bY J s.aL ρ fs v w) : oM ad (eX s G F) dQ rt f w := by
 unfold Nq at h
 split at h
 · rename_i j
   split at h
   · cases h
   · rename_i g bt
     obtain ⟨w', q1, aS⟩ := ae j g bt
     cases af with
     | fv hj =>
       rw [q1] at hj
       cases hj
       split at h
       · rename_i eK
         obtain ⟨g1, g2, g3⟩ := g
         obtain ⟨rfl, rfl⟩ := eK
         cases h
         exact ⟨aS.1, fun H z q aD bD => aS.2 H z q (aD.sub (JD _ _)) bD⟩
       · cases h
 · rename_i i cs
   cases af with
   | fn fA =>
     split at h
     · cases h
     · rename_i e he
       split at h
       · rename_i vs cO hnd
         split at h
         · cases h
         · rename_i c hc
           split at h
           · rename_i eK
             have wo : e ∈ cr.T /\ e.id = i := by
              clear eK hc h hT
              generalize cr.T = T at he
              induction T with
              | nil => cases he
              | cons e' T ih =>
                simp only [wj] at he
                split at he
                · rename_i hb; cases he; exact ⟨by simp, fl hb⟩
                · exact ⟨k5 _ (ih he).1, (ih he).2⟩
             have bd := hT.1 e wo.1
             obtain ⟨aY, ks, p1, p2, p3, lu, rM⟩ := NH bm R fA cO hnd hc
             have hid := wo.2
             clear wo he
             obtain ⟨arM, BQ, G5, wq, A3⟩ := e
             obtain ⟨h1, h2⟩ := eK
             simp only at h1 h2 hid
             subst h1; subst h2; subst hid
             cases h
             refine ⟨aiv, fun H z q aD bD => ?_⟩
             subst p1
             exact bd H [] c (Ie dQ z) aY (iY dQ z) q p2 (by rw [vh, <- p3]; exact aD.US ks lu) (NI dQ z) bD
           · cases h
       · cases h
 · cases h
theorem Iw (bm : gC J) (R : cl J b F fs s σ H G ρ) (hT : as0 ad cr) (ae : ∀ j f, nth cr.fv j = some f -> ∃ w, fs[j]? = some w /\ oM ad F f.dQ f.rt f.f w) :
  ∀ {aY : List kY} {vs : List (aN J.ay)} {ws : List V} {a : kZ J aY}, yx cr s aY vs = some a -> bp J s.aL ρ fs vs ws -> rL ad (eX s G F) aY a ws
 | [], _, _, _, h, .nil => rfl
 | [], _, _, _, h, .cons _ _ => by cases h
 | .v _ :: _, _, _, _, h, .nil => by cases h
 | .f _ _ :: _, _, _, _, h, .nil => by cases h
 | .v t :: aY, _, _, _, h, .cons af r => by
   simp only [yx] at h
   split at h
   · cases h
   · rename_i x e
     split at h
     · cases h
     · rename_i l e2
       cases h
       exact ⟨_, by rw [bm.iH _ _ _ _ _ _ _ af e], Iw bm R hT ae e2 r⟩
 | .f dQ rt :: aY, _, _, _, h, .cons af r => by
   simp only [yx] at h
   split at h
   · cases h
   · rename_i x e
     split at h
     · cases h
     · rename_i l e2
       cases h
       exact ⟨_, _, rfl, aiw bm R hT ae e af, Iw bm R hT ae e2 r⟩
theorem Ix (bm : gC J) {F : cW} : ∀ {aY : List kY} {a : kZ J aY} {ws : List V}, rL ad F aY a ws -> ∀ H low, fe H low ws = some (ws, H, low)
 | [], _, _, h, H, low => by cases h; rfl
 | .v t :: aY, x, _, ⟨fb, e, r⟩, H, low => by subst e; exact UX (bm.bO _ _) (Ix bm r H low)
 | .f dQ rt :: aY, x, _, ⟨w, fb, e, q, r⟩, H, low => by subst e; exact UY q.1 (Ix bm r H low)
theorem NJ {F F' : cW} : ∀ {aY : List kY} {a : kZ J aY} {ws : List V}, AU aY = true -> rL ad F aY a ws -> rL ad F' aY a ws
 | [], _, _, _, h => h
 | .v t :: aY, x, _, hn, ⟨fb, e, r⟩ => ⟨fb, e, NJ (aY := aY) hn r⟩
 | .f _ _ :: _, _, _, hn, _ => by cases hn
theorem VS (bm : gC J) (aJ : n0 S) (R : cl J b F fs s σ H G ρ) (hT : as0 ad cr) (ae : ∀ j f, nth cr.fv j = some f -> ∃ w, fs[j]? = some w /\ oM ad F f.dQ f.rt f.f w)
  {f : aN J.ay} {aY : List (aN J.ay)} {wf : V} {ws : List V} {k : aN J.ay -> bH J -> A} (h : S (Ig cr s f aY k)) (af : bY J s.aL ρ fs f wf) (ao : bp J s.aL ρ fs aY ws) :
  ∃ v ar w, S (k v ar) /\ jf s ar /\ bY J ar.aL ρ fs v w /\ ∀ H, Own H (eX s G F) -> cK ad wf ws H = some (w, H, H.length) /\ fe H H.length ws = some (ws, H, H.length) := by
 unfold Ig at h
 split at h
 · rename_i j
   split at h
   · exact absurd h aJ.bad
   · rename_i g bt
     obtain ⟨w', q1, aS⟩ := ae j g bt
     cases af with
     | fv hj =>
       rw [q1] at hj
       cases hj
       split at h
       · exact absurd h aJ.bad
       · rename_i a e
         obtain ⟨r, wq, h⟩ := aJ.db h
         obtain ⟨v, ar, h1, h2, av⟩ := yE (ρ := ρ) (fs := fs) bm h
         have aix := Iv bm e ao
         subst aix
         exact ⟨v, ar, _, h1, h2, av, fun H aD => ⟨aS.2 H a r (aD.sub (JD _ _)) wq, Ix (ad := ad) (F := F) bm (NI _ a) H _⟩⟩
 · rename_i i cs
   cases af with
   | fn fA =>
     split at h
     · exact absurd h aJ.bad
     · rename_i e he
       split at h
       · rename_i vs cO hnd iI
         split at h
         · exact absurd h aJ.bad
         · rename_i c hc
           split at h
           · exact absurd h aJ.bad
           · rename_i a Cp
             obtain ⟨r, wq, h⟩ := aJ.db h
             obtain ⟨v, ar, h1, h2, av⟩ := VQ (ρ := ρ) (fs := fs) bm h
             have wo : e ∈ cr.T /\ e.id = i := by
              clear hc Cp wq h hT iI h1
              generalize cr.T = T at he
              induction T with
              | nil => cases he
              | cons e' T ih =>
                simp only [wj] at he
                split at he
                · rename_i hb; cases he; exact ⟨by simp, fl hb⟩
                · exact ⟨k5 _ (ih he).1, (ih he).2⟩
             have bd := hT.1 e wo.1
             obtain ⟨vq, ks, p1, p2, p3, lu, rM⟩ := NH bm R fA cO hnd hc
             have Eo := Iw bm R hT ae Cp ao
             have hid := wo.2
             subst hid; subst p1
             refine ⟨v, ar, _, h1, h2, av, fun H aD => ⟨?_, Ix bm Eo H _⟩⟩
             split at iI
             · have hl := fA.length
               cases vq with
               | nil => exact bd H (eX s G F) c a [] ws r p2 (by rw [VR]; exact aD) Eo wq
               | cons x xs => simp at hl
             · exact bd H [] c a vq ws r p2 (by rw [vh, <- p3]; exact aD.US ks lu) (NJ iI Eo) wq
       · exact absurd h aJ.bad
 · exact absurd h aJ.bad
theorem uT {α : Type} : ∀ {l : List (Nat × α)} {o : Nat} {x : α}, (l.map Prod.fst).Nodup -> (o, x) ∈ l -> bI l o = some x
 | (k, a) :: r, o, x, hn, h => by
   rw [gd]
   have hn := vj.1 hn
   rcases dS.1 h with e | h
   · cases e; rw [if_pos rfl]
   · rw [if_neg fun e => hn.1 (by subst e; exact ey.2 ⟨_, h, rfl⟩)]
     exact uT hn.2 h
theorem aiy {α : Type} {l fp : List (Nat × α)} {o : Nat} {x : α} (hs : fp.Sublist l) (hn : (l.map Prod.fst).Nodup) (h : bI fp o = some x) : bI l o = some x := uT hn (hs.subset (ky h))
theorem VT (o : Nat) : ∀ m : List (Nat × cP J), (AV o m).Sublist m
 | [] => r3 _
 | (k, c) :: r => by
   simp only [AV]
   split
   · exact auo _ _
   · exact (VT o r).cons_cons _
theorem VU {o : Nat} : ∀ {m : List (Nat × cP J)} {aT : cP J}, bI m o = some aT -> ∃ k, (m.map fun e => G e.1)[k]? = some (G o) /\ ∀ x, ((AV o m).map fun e => G e.1).Sublist ((m.map fun e => G e.1).set k x)
 | (k, c) :: r, aT, h => by
   simp only [bI] at h
   simp only [AV]
   split at h
   · rename_i e
     try rw [e]
     refine ⟨0, by simp [fl e], fun x => ?_⟩
     simp only [eD, List.set_cons_zero]
     exact auo _ _
   · rename_i e
     try rw [e]
     obtain ⟨i, h1, h2⟩ := VU h
     refine ⟨i + 1, by simpa using h1, fun x => ?_⟩
     simp only [eD, List.set_cons_succ]
     exact (h2 x).cons_cons _
theorem CZ {n low : Nat} : ∀ {vs : List V}, ct vs = true -> kj (eg n) H low vs = some (vs, H, low)
 | [], _ => rfl
 | v :: r, h => by
   simp only [ct, cd] at h
   have : eg n H low v = some (v, H, low) := by cases n <;> simp [eg, h.1]
   simp only [kj, this, CZ h.2]
theorem aiz {n : Nat} {ms hF : cW} {vs vs' : List V} (h : pz b n ms vs vs' hF) : nd b (n + 1) ms (.agg vs) (.agg vs') hF := fun H low aD hb => by
 obtain ⟨H1, b0, ah, gU, ec⟩ := h H low aD hb
 refine ⟨H1, b0, ?_, gU, ec⟩
 simp only [eg, bO, ah]
 split
 · rename_i hp; rw [CZ hp] at ah; cases ah; rfl
 · rfl
theorem VV {n : Nat} {ms hF : cW} {vs vs' : List V} (h : pz b n ms vs vs' hF) : nd b (n + 1) ms (.ba vs) (.ba vs') hF := fun H low aD hb => by
 obtain ⟨H1, b0, ah, gU, ec⟩ := h H low aD hb
 refine ⟨H1, b0, ?_, gU, ec⟩
 simp only [eg, bO, ah]
 split
 · rename_i hp; rw [CZ hp] at ah; cases ah; rfl
 · rfl
def yH (b : Nat) (B : List Bool) (ρ fs : List V) (G : Nat -> List (Nat × cE)) (m : List (Nat × cP J)) : Prop := (m.map Prod.fst).Nodup /\ ∀ o aT, bI m o = some aT -> pK J b B ρ fs o (G o) aT
theorem yH.sub {B : List Bool} {m m' : List (Nat × cP J)} (h : yH b B ρ fs G m) (hs : m'.Sublist m) : yH b B ρ fs G m' :=
 ⟨h.1.sublist (hs.map _), fun o aT q => h.2 o aT (aiy hs h.1 q)⟩
theorem Ep {n : Nat} {B : List Bool} {f : List (Nat × cP J) -> aN J.ay -> Option (aN J.ay × List (Nat × cP J))}
  (ae : ∀ {m m' : List (Nat × cP J)} {v v' : aN J.ay} {w : V}, yH b B ρ fs G m -> f m v = some (v', m') -> bY J B ρ fs v w -> ∃ w', nd b n (m.map (fun e => G e.1) ++ F) w w' (m'.map (fun e => G e.1) ++ F) /\ bY J B ρ fs v' w' /\ m'.Sublist m) :
  ∀ {vs vs' : List (aN J.ay)} {ws : List V} {m m' : List (Nat × cP J)}, yH b B ρ fs G m -> uP f m vs = some (vs', m') -> bp J B ρ fs vs ws -> ∃ fb, pz b n (m.map (fun e => G e.1) ++ F) ws fb (m'.map (fun e => G e.1) ++ F) /\ bp J B ρ fs vs' fb /\ m'.Sublist m
 | _, _, _, m, m', hm, h, .nil => by cases h; exact ⟨[], .nil, .nil, r3 _⟩
 | _, _, _, m, m', hm, h, .cons af r => by
   simp only [uP] at h
   split at h
   · cases h
   · rename_i v' m1 ah
     split at h
     · cases h
     · rename_i l m2 e2
       cases h
       obtain ⟨w', al, a2, a3⟩ := ae hm ah af
       obtain ⟨fb, ec, gJ, ju⟩ := Ep ae (hm.sub a3) e2 r
       exact ⟨w' :: fb, pz.cons al ec, .cons a2 gJ, ju.trans a3⟩
theorem Er (bm : gC J) {B : List Bool} : ∀ {n : Nat} {m m' : List (Nat × cP J)} {v v' : aN J.ay} {w : V}, yH b B ρ fs G m -> rA n m v = some (v', m') -> bY J B ρ fs v w -> ∃ w', nd b n (m.map (fun e => G e.1) ++ F) w w' (m'.map (fun e => G e.1) ++ F) /\ bY J B ρ fs v' w' /\ m'.Sublist m
 | 0, _, _, _, _, _, _, h, _ => by cases h
 | n + 1, m, m', v, v', w, hm, h, af => by
   simp only [rA] at h
   split at h
   · rename_i o
     split at h
     · rename_i t x hx
       cases h
       obtain ⟨v0, q1, aS⟩ := hm.2 o _ hx
       cases af with
       | row ho =>
         rw [q1] at ho
         cases ho
         obtain ⟨k, cn, dZ⟩ := VU (G := G) hx
         have aH := (fy.1 cn).1
         have := nd.row (b := b) (n := n) (ms := m.map (fun e => G e.1) ++ F) k (by rw [hq aH]; exact cn) aS (bm.bO t)
         refine ⟨_, fun H low aD hb => ?_, .sl, VT o m⟩
         obtain ⟨H1, b0, ah, gU, ec⟩ := this H low aD hb
         refine ⟨H1, b0, ah, gU.sub ?_, ec⟩
         rw [PB _ _ aH]
         exact (dZ _).append (r3 _)
     · cases h
   · split at h
     · rename_i l m1 e
       cases h
       cases af with
       | agg af =>
         obtain ⟨fb, al, a2, a3⟩ := Ep (Er bm) hm e af
         exact ⟨_, aiz al, .agg a2, a3⟩
     · cases h
   · split at h
     · rename_i l m1 e
       cases h
       cases af with
       | ba af =>
         obtain ⟨fb, al, a2, a3⟩ := Ep (Er bm) hm e af
         exact ⟨_, VV al, .ba a2, a3⟩
     · cases h
   · cases h; exact ⟨w, .plain (by cases af; rfl), af, r3 _⟩
   · cases h; exact ⟨w, .plain (by cases af; rfl), af, r3 _⟩
   · cases h; exact ⟨w, .plain (by cases af; rfl), af, r3 _⟩
   · cases h; exact ⟨w, .plain (by cases af; rfl), af, r3 _⟩
   · cases h; exact ⟨w, .plain (by cases af; exact nQ _ _ _), af, r3 _⟩
   · split at h
     · rename_i hp; cases h; exact ⟨w, .plain (by cases af; exact hp), af, r3 _⟩
     · cases h
   · cases h
theorem cl.NK (R : cl J b F fs s σ H G ρ) : yH b s.aL ρ fs G s.mem := ⟨R.dE, R.mem⟩
theorem aiA (bm : gC J) {ts : List Nat} {x : dk J ts} (h : D8 (J := J) ts = true) : flat (oL ts x) = true := by
 have key : ∀ {ts : List Nat} {x : dk J ts}, D8 (J := J) ts = true -> tq (iY ts x) = true := by
  intro ts
  induction ts with
  | nil => intro _ _; rfl
  | cons t r ih =>
    intro x h
    simp only [D8] at h
    split at h
    · rename_i e; simp only [iY, tq, bm.a8 t _ e, ih h, zq]
    · cases h
 have := key (x := x) h
 unfold oL
 generalize iY ts x = ws at this
 match ws, this with
 | [], _ => rfl
 | [w], q => simpa [tq, one] using q
 | _ :: _ :: _, q => exact q
theorem aiB {T : List (bR J)} {i : Nat} {e : bR J} (he : wj T i = some e) : e ∈ T /\ e.id = i := by
 induction T with
 | nil => cases he
 | cons e' T ih =>
   simp only [wj] at he
   split at he
   · rename_i hb; cases he; exact ⟨by simp, fl hb⟩
   · exact ⟨k5 _ (ih he).1, (ih he).2⟩
theorem aiC {B : List Bool} : ∀ {ts : List Nat} {x : dk J ts}, qE B ts [] = some x -> ts = []
 | [], _, _ => rfl
 | _ :: _, _, h => by cases h
theorem aiD (bm : gC J) (aJ : n0 S) (R : cl J b F fs s σ H G ρ) (hT : as0 ad cr) (ae : ∀ j f, nth cr.fv j = some f -> ∃ w, fs[j]? = some w /\ oM ad F f.dQ f.rt f.f w)
  {f : aN J.ay} {aY : List (aN J.ay)} {wf : V} {ws : List V} {k : aN J.ay -> bH J -> A} (h : S (Ns cr s f aY k)) (af : bY J s.aL ρ fs f wf) (ao : bp J s.aL ρ fs aY ws) :
  ∃ v ar w fb hF, S (k v ar) /\ jf s ar /\ bY J ar.aL ρ fs v w /\ pz b 16 (eX s G F) ws fb hF /\ (∀ H, cK ad wf fb H = some (w, H, H.length)) /\ flat w = true := by
 unfold Ns at h
 split at h
 · rename_i i
   cases af with
   | fn hn =>
     cases hn
     split at h
     · rename_i e vq m' he aP
       split at h
       · rename_i c a hc gF iI
         obtain ⟨r, wq, h⟩ := aJ.db h
         obtain ⟨v, ar, h1, h2, av⟩ := VQ (ρ := ρ) (fs := fs) bm h
         obtain ⟨fb, xF, z2, -⟩ := Ep (F := F) (Er bm) R.NK aP ao
         have aiE : e.caps = [] := aiC hc
         obtain ⟨wo, hid⟩ := aiB he
         have Eo := NJ (F' := []) iI (Iw bm R hT ae gF z2)
         have bj : ∀ H, cK ad (.fn i [] []) fb H = some (oL e.res r, H, H.length) := fun H => by
          have := hT.1 e wo H [] c a [] fb r (by rw [aiE]) (by rw [VR]; exact .nil H) Eo wq
          rwa [hid] at this
         split at h1
         · rename_i lg
           exact ⟨v, ar, _, fb, _, h1, h2, av, xF, bj, aiA bm lg⟩
         · split at h1
           · rename_i t x
             generalize oL e.res r = w at av bj
             cases av
             rcases aJ.br h1 with ⟨ah, vz⟩ | ⟨ah, vz⟩
             · have hx : x = .nil := by cases x <;> first | rfl | cases ah
               subst hx
               exact ⟨_, ar, .c0, fb, _, vz, h2, .k, xF, bj, rfl⟩
             · exact absurd vz aJ.bad
           · exact absurd h1 aJ.bad
       · exact absurd h aJ.bad
     · exact absurd h aJ.bad
 · exact absurd h aJ.bad
theorem avx (bm : gC J) (aJ : n0 S) (R : cl J b F fs s σ H G ρ) (hT : as0 ad cr) (ae : ∀ j f, nth cr.fv j = some f -> ∃ w, fs[j]? = some w /\ oM ad F f.dQ f.rt f.f w)
  {f : aN J.ay} {aY : List (aN J.ay)} {wf : V} {ws : List V} {k : aN J.ay -> bH J -> A} (h : S (atL cr s f aY k)) (af : bY J s.aL ρ fs f wf) (ao : bp J s.aL ρ fs aY ws) :
  ∃ v ar w fb m', S (k v { ar with mem := m', cZ := gone m' s.mem ++ ar.cZ }) /\ jf s ar /\ bY J ar.aL ρ fs v w /\ pz b 16 (eX s G F) ws fb (m'.map (fun e => G e.1) ++ F) /\ (∀ H, cK ad wf fb H = some (w, H, H.length)) /\ m'.Sublist s.mem /\ atv m' s.mem = true := by
 unfold atL at h
 split at h
 · rename_i i
   cases af with
   | fn hn =>
     cases hn
     split at h
     · rename_i e vq m' he aP
       split at h
       · rename_i c a hc gF iI ai
         obtain ⟨r, wq, h⟩ := aJ.db h
         obtain ⟨v, ar, h1, h2, av⟩ := VQ (ρ := ρ) (fs := fs) bm h
         obtain ⟨fb, xF, z2, z3⟩ := Ep (F := F) (Er bm) R.NK aP ao
         have aiE : e.caps = [] := aiC hc
         obtain ⟨wo, hid⟩ := aiB he
         have Eo := NJ (F' := []) iI (Iw bm R hT ae gF z2)
         have bj : ∀ H, cK ad (.fn i [] []) fb H = some (oL e.res r, H, H.length) := fun H => by
          have := hT.1 e wo H [] c a [] fb r (by rw [aiE]) (by rw [VR]; exact .nil H) Eo wq
          rwa [hid] at this
         exact ⟨v, ar, _, fb, m', h1, h2, av, xF, bj, z3, ai⟩
       · exact absurd h aJ.bad
     · exact absurd h aJ.bad
 · exact absurd h aJ.bad
end
end Go.Abs.gB
