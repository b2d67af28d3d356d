/- Texts of this claim, joined and written short by a program. -/
import Derived.Test.YtjgngmpmjbkbpaaGreatDoorP34
import Derived.Test.YtjgngmpmjbkbpaaGreatDoorP27
import Derived.Test.YtjgngmpmjbkbpaaGreatDoorP29
import Derived.Test.YtjgngmpmjbkbpaaGreatDoorP17
import Derived.Test.YtjgngmpmjbkbpaaGreatDoorP00
set_option linter.unusedVariables false
set_option linter.unusedSimpArgs false
set_option linter.unusedSectionVars false
namespace Go.Abs.gB
open Go Go.Abs
section
variable {J : hP} {b : Nat} {F : cW} {fs : List V} {s ar : bH J} {σ : cb} {H : Heap} {G : Nat -> List (Nat × cE)} {ρ : List V} {ad : Nat -> Option ca}
theorem Oa : ∀ (vs : List V) (i j : Nat) (v : V), vs[j]? = some v -> uE i vs (i + j) = v
 | [], _, _, _, h => by simp at h
 | u :: r, i, 0, v, h => by simp at h; subst h; exact uB _ _ _
 | u :: r, i, j + 1, v, h => by
   simp at h
   rw [uE, iE _ _ (by omega), show i + (j + 1) = i + 1 + j by omega]
   exact Oa r (i + 1) j v h
theorem Ob {F : cW} : ∀ {aY : List kY} {a : kZ J aY} {ws : List V}, rL ad F aY a ws -> ws.length = aY.length
 | [], _, _, h => by cases h; rfl
 | .v t :: aY, x, _, ⟨fb, e, r⟩ => by subst e; simp [Ob r]
 | .f _ _ :: aY, x, _, ⟨w, fb, e, _, r⟩ => by subst e; simp [Ob r]
def A9 : List kY -> List V -> List V
 | .v _ :: r, _ :: ws => A9 r ws
 | .f _ _ :: r, w :: ws => w :: A9 r ws
 | _, _ => []
def Wy (ad : Nat -> Option ca) (F : cW) (fs : List V) (l : List (D5 J)) : Prop := ∀ j f, nth l j = some f -> ∃ w, fs[j]? = some w /\ oM ad F f.dQ f.rt f.f w
theorem Oc (bm : gC J) : ∀ {aY : List kY} {x : kZ J aY} {ws : List V} {j : Nat} {s : bH J} {l : List (D5 J)} {pre : List V}, rL ad F aY x ws -> (∀ i w, ws[i]? = some w -> σ (j + i) = w) -> fs = pre ++ A9 aY ws -> pre.length = l.length -> Wy ad F fs l -> cl J b F fs s σ H G ρ ->
  cl J b F fs (yC aY x j s l).1 σ H G ρ /\ Wy ad F fs (yC aY x j s l).2 /\ (yC aY x j s l).1.mem = s.mem /\ (yC aY x j s l).1.aF = s.aF
 | [], x, ws, j, s, l, pre, hA, pO, ae, hp, hl, R => ⟨R, hl, rfl, rfl⟩
 | .v t :: aY, x, ws, j, s, l, pre, ⟨fb, e, r⟩, pO, ae, hp, hl, R => by
   subst e
   have h0 := pO 0 _ rfl
   have mS := A7 (R.ei (Iu (J.we t x.1))) (l := .s j) (w := J.enc t x.1) h0.symm (bm.lD t x.1 s.aL ρ fs)
   exact Oc (aY := aY) (x := x.2) (ws := fb) (j := j + 1) (l := l) bm r (fun i w h => by have := pO (i + 1) w (by simpa using h); rwa [Fb, p4]) ae hp hl mS
 | .f dQ rt :: aY, x, ws, j, s, l, pre, ⟨w, fb, e, q, r⟩, pO, ae, hp, hl, R => by
   subst e
   have h0 := pO 0 _ rfl
   have hj : fs[l.length]? = some w := by
    rw [ae, <- hp, wW (aK _)]; simp [A9]
   have mS := A7 R (l := .s j) (w := w) (v := .fv l.length) h0.symm (.fv hj)
   refine Oc (aY := aY) (x := x.2) (ws := fb) (j := j + 1) (l := l ++ [⟨dQ, rt, x.1⟩]) bm (pre := pre ++ [w]) r (fun i w h => by have := pO (i + 1) w (by simpa using h); rwa [Fb, p4]) (by rw [ae]; simp [A9]) (by simp [hp]) (fun k g ai => ?_) mS
   rw [uO] at ai
   rcases gg k l.length with aH | hge
   · rw [hq aH] at ai
     exact hl k g (by rw [uO]; exact ai)
   · rw [wW hge] at ai
     cases hd : k - l.length with
     | zero =>
       rw [hd] at ai
       cases ai
       have : k = l.length := by omega
       subst this
       exact ⟨w, hj, q⟩
     | succ n => rw [hd] at ai; simp at ai
theorem Wz (bm : gC J) : ∀ {ts : List Nat} {c : dk J ts} {aY : List Nat} {j : Nat} {s ar : bH J} {G : Nat -> List (Nat × cE)} {ρ : List V}, Ip ts c j s = some ar -> aY.length = ts.length -> (∀ i a, aY[i]? = some a -> σ (j + i) = .ptr a 0) -> Own H (s.mem.map (fun e => G e.1) ++ (yF ts c aY ++ F)) -> cl J b F fs s σ H G ρ ->
  ∃ G' cS, cl J b F fs ar σ H G' cS
 | [], c, aY, j, s, ar, G, ρ, h, hl, pO, aD, R => by cases h; exact ⟨G, ρ, R⟩
 | t :: ts, c, [], j, s, ar, G, ρ, h, hl, pO, aD, R => by cases hl
 | t :: ts, c, a :: aY, j, s, ar, G, ρ, h, hl, pO, aD, R => by
   simp only [Ip] at h
   split at h
   · cases h
   · rename_i cs hc
     have fA := yD (ρ := ρ) (fs := fs) hc (bm.lD t (nY ts c) s.aL ρ fs)
     have h0 := pO 0 _ rfl
     refine Wz bm (G := fun o => if o = s.aF then [(a, .cells (aG (J.enc t (nY ts c))))] else G o) (ρ := ρ ++ [.ptr a 0]) h (by simpa using hl) (fun i bf hi => by have := pO (i + 1) bf (by simpa using hi); rwa [Fb, p4]) ?_ ?_
     · have e : (s.mem.map fun e => if e.1 = s.aF then [(a, cE.cells (aG (J.enc t (nY ts c))))] else G e.1) = s.mem.map fun e => G e.1 :=
        pX fun e he => by rw [if_neg (p5 (R.lt e he))]
       simp only [oY, e, eD, n5, if_pos, mb, List.singleton_append]
       exact aD
     · have WA : (ρ ++ [V.ptr a 0])[s.aF]? = some (.ptr a 0) := by rw [wW (by rw [R.aF]; exact aK _), R.aF]; simp
       refine ⟨by simp [R.aF], fun k v ai => ?_, ?_, ?_, fun e he => ?_, fun o aT ho => ?_, fun i β ai => mw (iL _ _) (R.ea i β ai)⟩
       · have ai : bI ((j, .ptr s.aF 0) :: s.vs) k = some v := ai
         rw [gd] at ai
         split at ai
         · rename_i e; cases ai; subst e
           rw [show σ j = .ptr a 0 from h0]
           exact .ptr WA
         · exact (R.vs k v ai).mono (iL _ _) (iL _ _)
       · have e : (s.mem.map fun e => if e.1 = s.aF then [(a, cE.cells (aG (J.enc t (nY ts c))))] else G e.1) = s.mem.map fun e => G e.1 :=
          pX fun e he => by rw [if_neg (p5 (R.lt e he))]
         unfold eX
         simp only [oY, e, eD, n5, if_pos, mb, List.singleton_append]
         refine aD.sub (List.Sublist.append (r3 _) ?_)
         simp only [yF, oX]
         exact List.Sublist.cons_cons _ (JD _ _)
       · simp only [oY, eD, n5]
         refine Fe.2 ⟨R.dE, by simp, fun x hx y hy => ?_⟩
         obtain ⟨e, he, q⟩ := ey.1 hx
         simp only [PJ] at hy
         subst hy
         rw [<- q]
         exact p5 (R.lt e he)
       · rcases jV.1 he with he | he
         · exact JN (R.lt e he)
         · simp only [PJ] at he; subst he; exact wZ _
       · have ho : bI (s.mem ++ [(s.aF, cP.cells false cs)]) o = some aT := ho
         rw [H7] at ho
         cases hm : bI s.mem o with
         | some c' =>
           rw [hm] at ho
           cases ho
           have := (R.mem o aT hm).mono (iL s.aL (J.we t (nY ts c))) (iL ρ [.ptr a 0])
           simp only [p5 (R.lt _ (ky hm)), if_false]
           exact this
         | none =>
           rw [hm] at ho
           simp only at ho
           rw [gd] at ho
           split at ho
           · rename_i e
             cases ho; subst e
             exact ⟨a, _, WA, by simp, fA.mono eY (iL _ _), fun q => by cases q⟩
           · cases ho
theorem WB (R : cl J b F fs s σ H G ρ) : ∀ {rs : List lN} {vs : List (aN J.ay)}, Ec s rs = some vs -> ∃ us, rz σ H rs us /\ bp J s.aL ρ fs vs us
 | [], _, h => by cases h; exact ⟨[], .nil, .nil⟩
 | r :: rs, vs, h => by
   simp only [Ec] at h
   split at h
   · cases h
   · rename_i v af
     split at h
     · cases h
     · rename_i l hl
       cases h
       obtain ⟨us, h1, h2⟩ := WB R hl
       cases r with
       | tmp t => exact ⟨_, .tmp rfl h1, .cons (R.vs t v af) h2⟩
       | cell a sh =>
         simp only at af
         split at af
         · rename_i o f ao
           split at af
           · rename_i w cs hm
             have nE := R.vs a _ ao
             generalize hw : σ a = w at nE
             cases nE with
             | ptr ho =>
               obtain ⟨q, ws, q1, aS, bZ, cR, -⟩ := R.cells hm
               rw [q1] at ho
               cases ho
               obtain ⟨u, dL, e7⟩ := Ei af cR
               exact ⟨_, .cell hw (bZ H R.own) dL h1, .cons e7 h2⟩
           · cases af
         · cases af
theorem WC (bm : gC J) : ∀ (ts : List Nat) (x : dk J ts), ct (iY ts x) = true
 | [], _ => rfl
 | t :: r, x => by simp only [iY, ct, bm.bO, WC bm r, zq]
theorem ai8 (bm : gC J) (ts : List Nat) (x : dk J ts) : bO (oL ts x) = true := by
 unfold oL
 have h := WC bm ts x
 generalize iY ts x = us at h
 match us with
 | [] => rfl
 | [u] => simpa [ct, one] using h
 | _ :: _ :: _ => exact h
theorem WD {f : List (Nat × cP J) -> aN J.ay -> Option (aN J.ay × List (Nat × cP J))} : ∀ {vs vs' : List (aN J.ay)} {m m' : List (Nat × cP J)}, uP f m vs = some (vs', m') -> vs'.length = vs.length
 | [], _, _, _, h => by cases h; rfl
 | v :: r, _, _, _, h => by
   simp only [uP] at h
   split at h
   · cases h
   · split at h
     · cases h
     · rename_i e; cases h; simp [WD e]
theorem WE (bm : gC J) {T : List (bR J)} (hT : ∀ e ∈ T, hg ad e) (e : bR J) {f : iw} (dX : ad e.id = some (.code f)) (ty : List (Nat × Nat)) (asT : List (Nat × Nat × Nat)) (ow : ∀ q ∈ asT, atD J ad q.1 q.2) (an : l7 J)
  (eT : f.fresh = false) (hn : Nat.ble (e.args.length + e.caps.length) f.vl = true) (h : ∀ c a, e.fn c a = Ed T ty asT f an e.caps e.args e.res c a) : hg ad e := by
 intro H F c a aY ws r hlen aD hA hr
 rw [h] at hr
 unfold Ed at hr
 have hl := Ob hA
 have pO : ∀ i w, ws[i]? = some w -> uE 0 (ws ++ yG aY) (0 + i) = w := fun i w hi => Oa _ 0 i w (by rw [hq (fy.1 hi).1]; exact hi)
 have N9 : cl J H.length F (A9 e.args ws) sU (uE 0 (ws ++ yG aY)) H (fun _ => []) [] :=
  ⟨rfl, fun _ _ q => (by cases q), aD.sub (JD _ _), Fk, fun _ q => (by cases q), fun _ _ q => (by cases q), fun _ _ q => (by cases q)⟩
 obtain ⟨bM, f1, m1, -⟩ := Oc (pre := []) (l := []) bm hA pO rfl rfl (fun j f q => by simp [nth] at q) N9
 split at hr
 rename_i s1 fv ai9
 rw [ai9] at bM f1 m1
 split at hr
 · cases hr
 · rename_i s2 aja
   obtain ⟨bq, wy, eC⟩ := Wz bm (σ := uE 0 (ws ++ yG aY)) aja hlen (fun i x hi => by
    rw [<- hl]
    have := Oa (ws ++ yG aY) 0 (ws.length + i) (.ptr x 0) (by rw [wW (JO _ _)]; simp [hi])
    rwa [eF] at this) (by rw [m1]; exact aD) bM
   refine U6 (caps := yG aY) dX ?_ eT ?_ (ai8 bm _ _)
   · simp only [kg, n4, hl, hlen]
     exact k3 hn
   · refine wz bm (cr := ⟨T, fv, ty, asT⟩) ⟨hT, ow⟩ f1 (NC r) hr eC fun x ar a7 H' G' cS al a2 a3 a4 => ?_
     have fin : (match Ec ar f.results with
       | some vs => Nz ar e.res vs
       | none => none) = some r -> GZ f.results a7 H' H.length (oL e.res r) := fun h => by
      split at h
      · rename_i vs cO
        obtain ⟨us, kJ, o6⟩ := WB a2 cO
        unfold Nz at h
        split at h
        · rename_i v
          cases o6 with
          | cons af hr =>
            cases hr
            split at h
            · rename_i v' m' aP
              obtain ⟨w', xF, z2, -⟩ := Er (F := F) bm a2.NK aP af
              have := Iv bm h (.cons z2 .nil)
              have ah : oL e.res r = w' := by unfold oL; rw [<- this]; rfl
              rw [ah]
              exact U5 kJ rfl a2.own xF
            · cases h
        · rename_i bA
          split at h
          · rename_i vs' m' aP
            obtain ⟨fb, xF, z2, -⟩ := Ep (F := F) (Er bm) a2.NK aP o6
            have := Iv bm h z2
            have b2 := o6.length
            have jZ := z2.length
            have IU := WD aP
            have gU : ∀ {l : List V}, l.length = vs.length -> one l = .ba l := fun {l} hl => by
             match l, hl with
             | [], _ => rfl
             | [w], hl =>
               match vs, hl, bA with
               | [v], _, bA => exact absurd rfl (bA v)
             | _ :: _ :: _, _ => rfl
            have ah : oL e.res r = .ba fb := by
             unfold oL; rw [<- this]
             exact gU (by rw [<- jZ, IU])
            rw [ah]
            exact U5 kJ (gU b2.symm) a2.own (VV xF)
          · cases h
      · cases h
     cases x with
     | exit i => cases al
     | normal => exact ⟨.inl rfl, fin al⟩
     | ret => exact ⟨.inr rfl, fin al⟩
variable {B : List Bool} {v : aN J.ay} {w : V}
theorem bY.WG {i : Nat} {c : Bool} (h : B[i]? = some c) : bY J B ρ fs (.bo i false) (.bool c) := by
 have : bY J B ρ fs (.bo i false) (.bool (c != false)) := .bo h
 simpa using this
theorem WH {l : List Bool} {c : Bool} {i : Nat} (h : l[i]? = some c) : (B ++ l)[B.length + i]? = some c := by
 rw [wW (JO _ _), aun]; exact h
theorem bp.inv {v : aN J.ay} {vs : List (aN J.ay)} {ws : List V} : bp J B ρ fs (v :: vs) ws -> ∃ w fb, ws = w :: fb /\ bY J B ρ fs v w /\ bp J B ρ fs vs fb
 | .cons h r => ⟨_, _, rfl, h, r⟩
theorem bp.oN {ws : List V} : bp J B ρ fs [] ws -> ws = []
 | .nil => rfl
theorem oO {α : Type} (e : Nat) (f : α -> V) (l : ak α) : b4 (aG (bP e f l)) = true := by simp [b4]
theorem oP {α : Type} (e : Nat) (f : α -> V) (l : ak α) : (aG (bP e f l)).length = 1 := by simp
theorem hI {k : IntKind} {n : Int} (h : gV k v = some n) (af : bY J B ρ fs v w) : w = .int k n := by
 unfold gV at h
 split at h
 · split at h
   · rename_i e
     cases h; cases af
     rw [of_decide_eq_true e]
   · cases h
 · cases h
theorem WI {c : Bool} (h : Iq B v = some c) (af : bY J B ρ fs v w) : w = .bool c := by
 unfold Iq at h
 split at h
 · cases h; cases af; rfl
 · split at h
   · rename_i c' hc
     rw [uO] at hc
     cases af with
     | bo hb =>
       rw [hc] at hb
       cases hb
       split at h <;> cases h <;> simp
   · cases h
 · cases h
theorem Od {s : bQ} (h : Ee v = some s) (af : bY J B ρ fs v w) : w = .str s := by
 unfold Ee at h
 split at h
 · cases h; cases af; rfl
 · cases h
theorem fw {t : Nat} {l : ak (J.ay t)} (h : eW t v = some l) (af : bY J B ρ fs v w) : w = bP (J.es t) (J.enc t) l := NN h af
theorem oQ {R : Type} {f : List (aN J.ay) -> Option R} {x : R} (h : nk f v = some x) (af : bY J B ρ fs v w) : ∃ vs ws, w = .agg ws /\ bp J B ρ fs vs ws /\ f vs = some x := by
 unfold nk at h
 split at h
 · cases af with
   | agg af => exact ⟨_, _, rfl, af, h⟩
 · cases h
end
end Go.Abs.gB
namespace Go.Abs.gB
open Go Go.Abs
section
variable {J : hP} {ad : Nat -> Option ca} {T : List (bR J)}
def yO (ad : Nat -> Option ca) (i : Nat) : iw := match ad i with
 | some (.code f) => f
 | _ => default
def IV (ad : Nat -> Option ca) (e : bR J) : Bool := match ad e.id with
 | some (.code f) => !f.fresh && Nat.ble (e.args.length + e.caps.length) f.vl
 | _ => false
abbrev b6 (ad : Nat -> Option ca) (T : List (bR J)) : Prop := ∀ e ∈ T, hg ad e
theorem yP {e : bR J} (h : IV ad e = true) : ad e.id = some (.code (yO ad e.id)) /\ (yO ad e.id).fresh = false /\ Nat.ble (e.args.length + e.caps.length) (yO ad e.id).vl = true := by
 unfold IV at h
 unfold yO
 split at h
 · rename_i f ae
   rw [ae]
   simp only [cd, pZ] at h
   exact ⟨rfl, h.1, h.2⟩
 · cases h
theorem b6.cons {e : bR J} (hT : b6 ad T) (h : hg ad e) : b6 ad (e :: T) := fun e' he => by
 rcases dS.1 he with rfl | he
 · exact h
 · exact hT e' he
theorem cA (bm : gC J) {e : bR J} (hT : b6 ad T) (ty : List (Nat × Nat)) (an : l7 J) (h1 : IV ad e = true) (h2 : ∀ c a, e.fn c a = Ed T ty [] (yO ad e.id) an e.caps e.args e.res c a) : b6 ad (e :: T) :=
 hT.cons (WE bm hT e (yP h1).1 ty [] (fun _ q => by cases q) an (yP h1).2.1 (yP h1).2.2 h2)
theorem avG (bm : gC J) {e : bR J} (hT : b6 ad T) (ty : List (Nat × Nat)) (asT : List (Nat × Nat × Nat)) (ow : ∀ q ∈ asT, atD J ad q.1 q.2) (an : l7 J) (h1 : IV ad e = true) (h2 : ∀ c a, e.fn c a = Ed T ty asT (yO ad e.id) an e.caps e.args e.res c a) : b6 ad (e :: T) :=
 hT.cons (WE bm hT e (yP h1).1 ty asT ow an (yP h1).2.1 (yP h1).2.2 h2)
def IW : (aY : List kY) -> kZ J aY -> List V
 | .v t :: r, x => J.enc t x.1 :: IW r x.2
 | _, _ => []
theorem WJ {F : cW} : ∀ {aY : List kY} {a : kZ J aY} {ws : List V}, AU aY = true -> rL ad F aY a ws -> ws = IW aY a
 | [], _, _, _, h => h
 | .v t :: aY, x, _, hn, ⟨fb, e, r⟩ => by rw [e, WJ (aY := aY) hn r]; rfl
 | .f _ _ :: _, _, _, hn, _ => by cases hn
theorem Ez {i : Nat} {args : List kY} {res : List Nat} {fn : kZ J args -> Option (dk J res)} (hn : AU args = true) (h : ∀ H a r, fn a = some r -> cK ad (.fn i [] []) (IW args a) H = some (oL res r, H, H.length)) : hg ad ⟨i, [], args, res, fun _ a => fn a⟩ := by
 intro H F c a aY ws r h1 h2 av bc
 cases aY with
 | nil => rw [WJ hn av]; exact h H a r bc
 | cons x xs => cases h1
theorem b6.hd {e : bR J} (h : b6 ad (e :: T)) : hg ad e := h e (qN ..)
end
end Go.Abs.gB
namespace Go.Abs.U
open Go Go.Abs Go.Abs.gB
noncomputable section
def WK (ad : Nat -> Option ca) : Prop := ∀ (H0 : Heap) (ab : Int) (r : Bool), yt ab = some r -> cK ad (.fn 316 [] []) [.int .u8 ab] H0 = some (.bool r, H0, H0.length)
def WL (ad : Nat -> Option ca) : Prop := ∀ (H0 : Heap) (ab : Int) (r : Bool), yu ab = some r -> cK ad (.fn 319 [] []) [.int .u8 ab] H0 = some (.bool r, H0, H0.length)
def WM (ad : Nat -> Option ca) : Prop := ∀ (H0 : Heap) (ab : Int) (r : Bool), D2 ab = some r -> cK ad (.fn 318 [] []) [.int .u8 ab] H0 = some (.bool r, H0, H0.length)
def WN (ad : Nat -> Option ca) : Prop := ∀ (H0 : Heap) (ab : Int) (r : Bool), AM ab = some r -> cK ad (.fn 321 [] []) [.int .u8 ab] H0 = some (.bool r, H0, H0.length)
def WO (ad : Nat -> Option ca) : Prop := ∀ (H0 : Heap) (ab : bQ) (r : Bool), DZ ab = some r -> cK ad (.fn 322 [] []) [.str ab] H0 = some (.bool r, H0, H0.length)
def WQ (ad : Nat -> Option ca) : Prop := ∀ (H0 : Heap) (ab : bQ) (r : Int), AK ab = some r -> cK ad (.fn 320 [] []) [.str ab] H0 = some (aI r, H0, H0.length)
def WR (ad : Nat -> Option ca) : Prop := ∀ (H0 : Heap) (EA : cW) (ajd : Own H0 EA) (ab : bQ) (aB : (Int -> Option Bool)) (uU : V) (aje : ∀ H low, gl H low uU = some (uU, H, low)) (ajf : ∀ H (z0 : Int) (q : Bool), Own H EA -> aB z0 = some q -> cK ad uU [.int .u8 z0] H = some (.bool q, H, H.length)) (r : Int), AL ab aB = some r -> cK ad (.fn 317 [] []) [.str ab, uU] H0 = some (aI r, H0, H0.length)
def WS (ad : Nat -> Option ca) : Prop := ∀ (H0 : Heap) (ab : bQ) (r : Int), D1 ab = some r -> cK ad (.fn 315 [] []) [.str ab] H0 = some (aI r, H0, H0.length)
def WT (ad : Nat -> Option ca) : Prop := ∀ (H0 : Heap) (ab : Int) (r : Bool), AO ab = some r -> cK ad (.fn 383 [] []) [.int .u8 ab] H0 = some (.bool r, H0, H0.length)
def IX (ad : Nat -> Option ca) : Prop := ∀ (H0 : Heap) (ab : Int) (aB : Int) (r : Bool), l4 ab aB = some r -> cK ad (.fn 188 [] []) [aI ab, aI aB] H0 = some (.bool r, H0, H0.length)
def yQ (ad : Nat -> Option ca) : Prop := ∀ (H0 : Heap) (EA : cW) (ajd : Own H0 EA) (ab : (ak fN)) (aB : (fN -> Option Bool)) (uU : V) (aje : ∀ H low, gl H low uU = some (uU, H, low)) (ajf : ∀ H (z0 : fN) (q : Bool), Own H EA -> aB z0 = some q -> cK ad uU [.agg [aI z0.Table, aI z0.fi, aI z0.bS]] H = some (.bool q, H, H.length)) (r : Bool), DX ab aB = some r -> cK ad (.fn 196 [] []) [bP 3 iF ab, uU] H0 = some (.bool r, H0, H0.length)
def ajg (ad : Nat -> Option ca) : Prop := ∀ (H0 : Heap) (ab : (ak Range)) (aB : Int) (r : (ak Range)), C2 ab aB = some r -> cK ad (.fn 187 [] []) [bP 2 pA ab, aI aB] H0 = some (bP 2 pA r, H0, H0.length)
variable {ad : Nat -> Option ca}
theorem ajh (h : hg (J := bh) ad ⟨316, [], [.v 3], [1], fun c a => yt a.1⟩) : WK ad := fun H0 a0 r q => h H0 [] () (a0, ()) [] _ r rfl (.nil H0) ⟨_, rfl, rfl⟩ q
theorem aji (h : hg (J := bh) ad ⟨319, [], [.v 3], [1], fun c a => yu a.1⟩) : WL ad := fun H0 a0 r q => h H0 [] () (a0, ()) [] _ r rfl (.nil H0) ⟨_, rfl, rfl⟩ q
theorem ajj (h : hg (J := bh) ad ⟨318, [], [.v 3], [1], fun c a => D2 a.1⟩) : WM ad := fun H0 a0 r q => h H0 [] () (a0, ()) [] _ r rfl (.nil H0) ⟨_, rfl, rfl⟩ q
theorem ajk (h : hg (J := bh) ad ⟨321, [], [.v 3], [1], fun c a => AM a.1⟩) : WN ad := fun H0 a0 r q => h H0 [] () (a0, ()) [] _ r rfl (.nil H0) ⟨_, rfl, rfl⟩ q
theorem ajl (h : hg (J := bh) ad ⟨322, [], [.v 2], [1], fun c a => DZ a.1⟩) : WO ad := fun H0 a0 r q => h H0 [] () (a0, ()) [] _ r rfl (.nil H0) ⟨_, rfl, rfl⟩ q
theorem ajm (h : hg (J := bh) ad ⟨320, [], [.v 2], [0], fun c a => AK a.1⟩) : WQ ad := fun H0 a0 r q => h H0 [] () (a0, ()) [] _ r rfl (.nil H0) ⟨_, rfl, rfl⟩ q
theorem ajn (h : hg (J := bh) ad ⟨317, [], [.v 2, .f [3] 1], [0], fun c a => AL a.1 a.2.1⟩) : WR ad := fun H0 F aD a0 al cn uv hL r q => h H0 F () (a0, al, ()) [] _ r rfl aD ⟨_, rfl, ⟨cn, _, rfl, ⟨uv, hL⟩, rfl⟩⟩ q
theorem ajo (h : hg (J := bh) ad ⟨315, [], [.v 2], [0], fun c a => D1 a.1⟩) : WS ad := fun H0 a0 r q => h H0 [] () (a0, ()) [] _ r rfl (.nil H0) ⟨_, rfl, rfl⟩ q
theorem ajp (h : hg (J := bh) ad ⟨383, [], [.v 3], [1], fun c a => AO a.1⟩) : WT ad := fun H0 a0 r q => h H0 [] () (a0, ()) [] _ r rfl (.nil H0) ⟨_, rfl, rfl⟩ q
theorem ajq (h : hg (J := bh) ad ⟨188, [], [.v 0, .v 0], [1], fun c a => l4 a.1 a.2.1⟩) : IX ad := fun H0 a0 al r q => h H0 [] () (a0, al, ()) [] _ r rfl (.nil H0) ⟨_, rfl, ⟨_, rfl, rfl⟩⟩ q
theorem ajr (h : hg (J := bh) ad ⟨196, [], [.v 5, .f [4] 1], [1], fun c a => DX a.1 a.2.1⟩) : yQ ad := fun H0 F aD a0 al cn uv hL r q => h H0 F () (a0, al, ()) [] _ r rfl aD ⟨_, rfl, ⟨cn, _, rfl, ⟨uv, hL⟩, rfl⟩⟩ q
end
end Go.Abs.U
namespace Go.Abs.U
open Go Go.Abs Go.Abs.S
def aDs : cm := q (R [r 22 (kr 3 S1 v20), r 23 (ls 3 t22), o 4 (.alloc [z, z, z]), n (st 3 v4 t23)]) (q (q (R [r 24 (di 0 v4), r 25 (b2 t24), r 26 (di 0 v1), r 27 (di 1 t26), r 28 (b2 t27), r 29 (ia 1 t28), r 30 (gI (fn 188) [t25, t29]), r 31 (no t30), r 32 (m t31), rg 33 t32 false (di 2 v4), rg 34 t32 false (b2 t33), rg 35 t32 false (di 0 v1), rg 36 t32 false (di 1 t35), rg 37 t32 false (b2 t36), rg 38 t32 false (ia 1 t37), rg 39 t32 false (gI (fn 188) [t34, t38]), rg 40 t32 false (no t39), r 41 (jr t32 jM t40), r 42 (m t41), rg 43 t42 false (di 0 v4), rg 44 t42 false (b2 t43), rg 45 t42 false (di 2 v4), rg 46 t42 false (b2 t45), rg 47 t42 false (eq t44 t46), o 48 (jr t42 jM t47)]) (iD aee (q (R [o 2 (m kq)]) rt) k)) (q (oE [r 49 (di 0 v1), r 50 (di 1 t49), r 51 (b2 t50), r 52 (di 0 v4), r 53 (b2 t52), r 54 (kr 6 t51 t53), r 55 (ls 6 t54), r 56 (di 0 v1), r 57 (di 1 t56), r 58 (b2 t57), r 59 (di 2 v4), r 60 (b2 t59), r 61 (kr 6 t58 t60), r 62 (ls 6 t61), o 5 (.alloc [ld, z, nl, z, z, z]), o 6 (.alloc [ld, z, nl, z, z, z]), n (st 6 v5 t55), n (st 6 v6 t62)] [0, 1, 3, 0, 8, 31, 63, 0, 128, 384, 0, 1024, 3968, 8064, 0, 0, 49279, 131071]) (q (oE [r 63 (di 1 v5), r 64 (b2 t63), r 65 (ne t64 (c 0)), r 66 (m t65), rg 67 t66 false (di 1 v6), rg 68 t66 false (b2 t67), rg 69 t66 false (ne t68 (c 0)), r 70 (jr t66 jM t69), r 71 (m t70), rg 72 t71 false (di 1 v4), rg 73 t71 false (b2 t72), rg 74 t71 false (di 2 v5), rg 75 t71 false (b2 t74), rg 76 t71 false (ia 1 t75), rg 77 t71 false (gI (fn 188) [t73, t76]), rg 78 t71 false (no t77), r 79 (jr t71 jM t78), r 80 (m t79), rg 81 t80 false (di 2 v6), rg 82 t80 false (b2 t81), rg 83 t80 false (ia 1 t82), rg 84 t80 false (ne t83 (c 1)), r 85 (jr t80 jM t84), r 86 (m t85), rg 87 t86 false (di 2 v6), rg 88 t86 false (b2 t87), rg 89 t86 false (kr 1 t88 (c 0)), rg 90 t86 false (b2 t89), rg 91 t86 false (di 2 v5), rg 92 t86 false (b2 t91), rg 93 t86 false (di 1 v4), rg 94 t86 false (b2 t93), rg 95 t86 false (kr 1 t92 t94), rg 96 t86 false (b2 t95), rg 97 t86 false (ne t90 t96), o 98 (jr t86 jM t97)] [0, 1, 3, 7, 15, 31, 63, 127, 255, 511, 1023, 511, 2559, 6655, 16383, 32767, 65535, 131071, 262143, 524287, 1048575, 2097151, 4194303, 8388607, 16777215, 33554431, 67108863, 134217727, 16777215, 285212671, 16777215, 1090519039, 4043309055, 8338276351, 17179869183, 34359738367]) (iD aeg (q (R [o 2 (m kq)]) rt) k))))
def aDt : cm := q (R [r 107 (kr 3 S2 v105), r 108 (ls 3 t107), o 9 (.alloc [z, z, z]), n (st 3 v9 t108)]) (R [r 109 (b2 kp), r 110 (di 0 v9), r 111 (b2 t110), n (.o2 0 t109 t111 jM)])
def aDu : cm := q (R [r 121 (.fail), o 122 (ex t121 0)]) (q (iD aeh k (e 6)) (cj 7 (q (R [r 123 (.fail), r 124 (ex t123 0), o 10 (.alloc [z]), n (st 1 v10 t124)]) (q (R [r 125 (di 0 v1), r 126 (di 6 t125), r 127 (b2 t126), r 128 (.r8 197 [] [v10, kp]), r 129 (gI (fn 196) [t127, t128]), o 130 (no t129)]) (iD v130 (R [r 131 (b2 kp), r 132 (b2 v10), n (.w3 0 t131 t132)]) k)))))
def aDv : cm := q (R [r 119 (b2 kp), o 120 (.fail)]) (cj 6 (.loop aDu))
def AG : iw := ⟨137, q (R [o 1 (iU v0), o 2 (m kq)]) (q (q (R [r 11 (di 0 v1), r 12 (di 6 t11), r 13 (b2 t12), r 14 (ia 1 t13), o 15 (gt t14 (c 12))]) (iD ad6 (q (R [o 2 (m kq)]) rt) k)) (q (q (R [r 16 (di 0 v1), r 17 (di 6 t16), o 18 (b2 t17), o 19 (ia 1 S1), o 20 (m (c 0))]) (cj 0 (.loop (uA 21 19 20 99 1 0 aDs)))) (q (R [r 100 (.mkMap), o 7 (.alloc [.hU]), n (st 1 kp t100)]) (q (q (R [r 101 (di 0 v1), r 102 (di 6 t101), o 103 (b2 t102), o 104 (ia 1 S2), o 105 (m (c 0))]) (cj 2 (.loop (uA 106 104 105 112 3 2 aDt)))) (q (q (R [r 113 (di 0 v1), r 114 (di 6 t113), r 115 (b2 t114), o 116 (ia 1 t115), o 117 (m (c 0))]) (cj 4 (.loop (uA 118 116 117 133 5 4 aDv)))) (q (R [r 134 (b2 kp), r 135 (ia 2 t134), r 136 (eq t135 (c 0)), o 2 (m t136)]) rt)))))), [.tmp 2], false⟩
def HF : cm := q (q (R [r 34 (m sF), r 35 (m kp), r 36 (ia 1 t35), o 37 (lt t34 t36)]) (iD v37 k (e 0))) (cj 1 (oE [r 38 (m sF), r 39 (m kp), r 40 (m sF), r 41 (.r9 2 t39 (some t40) none none), r 42 (m kp), r 43 (m sF), r 44 (.r9 2 t42 none (some t43) none), r 45 (.copy 2 t41 t44), r 46 (df t38 t45), o 8 (m t46)] [0, 0, 0, 6, 0, 0, 48, 126, 255, 511]))
def ayU : iw := ⟨48, q (R [o 4 (m sG)]) (q (q (R [r 9 (m v1), o 10 (lt t9 (c 0))]) (iD v10 (R [r 11 (.zu 9 (cs [99, 97, 110, 110, 111, 116, 32, 98, 101, 32, 110, 101, 103, 97, 116, 105, 118, 101])), n (.fail)]) k)) (q (R [r 13 (m v0), r 14 (ia 1 t13), r 15 (.conv .u64 t14), r 16 (m v1), r 17 (.conv .u64 t16), r 18 (gI (fn 300) [t15, t17]), r 12 (m t18), r 19 (ex t12 0), r 20 (ex t12 1), o 5 (m t19), o 6 (m t20)]) (q (q (R [r 21 (m v5), r 22 (gt t21 (.const (.int .u64 0))), r 23 (m t22), rg 24 t23 false (m v6), rg 25 t23 false (gt t24 (.const (.int .u64 9223372036854775807))), o 26 (jr t23 jM t25)]) (iD ad9 (R [r 27 (.zu 9 (cs [116, 104, 101, 32, 114, 101, 115, 117, 108, 116, 32, 111, 102, 32, 40, 108, 101, 110, 40, 120, 41, 32, 42, 32, 99, 111, 117, 110, 116, 41, 32, 111, 118, 101, 114, 102, 108, 111, 119, 115])), n (.fail)]) k)) (q (R [r 28 (m v6), r 29 (.conv .i64 t28), r 30 (.mkSlice 2 [z, z] 16 t29 t29), o 7 (m t30)]) (q (R [r 31 (m kp), r 32 (m v0), r 33 (.copy 2 t31 t32), o 8 (m t33)]) (q (cj 0 (.loop HF)) (q (R [r 47 (m kp), o 4 (m t47)]) rt))))))), [.tmp 4], false⟩
def DC : iw := ⟨15, q (R [o 3 (iU v0), o 4 (m kq)]) (q (R [r 5 (di 0 v3), r 6 (b2 t5), r 7 (b2 v1), r 8 (eq t6 t7), r 9 (m t8), rg 10 t9 true (b2 v2), rg 11 t9 true (di 2 v3), rg 12 t9 true (b2 t11), rg 13 t9 true (.lookup 0 (.bool false) t10 t12 false), r 14 (jr t9 t13 kq), o 4 (m t14)]) rt), [.tmp 4], false⟩
def ayV : iw := ⟨6, q (R [o 1 (iU v0), o 2 (m (.const (.jB)))]) (q (R [r 4 (gI (fn 313) []), o 3 (.alloc [.hU]), n (st 1 v3 t4)]) (q (R [r 5 (.r8 314 [] [v1, v3]), o 2 (m t5)]) rt)), [.tmp 2], false⟩
def HG : cm := R [o 3 (.alloc [z, z, z, z]), n (st 4 v3 SZ)]
def HH : cm := cj 1 (q (q (R [r 14 (di 2 v3), r 15 (b2 t14), r 16 (ne t15 (c 0)), r 17 (m t16), rg 18 t17 false (di 3 v3), rg 19 t17 false (b2 t18), rg 20 t17 false (b2 v1), rg 21 t17 false (ia 0 t20), rg 22 t17 false (ne t19 t21), o 23 (jr t17 jM t22)]) (iD ad7 (e 0) k)) (q (R [r 24 (di 0 v3), r 25 (b2 t24), n (st 1 v2 t25)]) rt))
def HI : iw := ⟨26, q (R [o 1 (iU v0), o 2 (.alloc [z])]) (q (q (R [r 4 (b2 v1), r 5 (eq t4 (cs [])), r 6 (m t5), rg 7 t6 false (b2 v1), rg 8 t6 false (ia 0 t7), rg 9 t6 false (gt t8 (c 4096)), o 10 (jr t6 jM t9)]) (iD v10 (q (R [n (st 1 v2 (c 0))]) rt) k)) (q (q (R [r 11 (b2 v1), o 12 (gI (fn 207) [t11])]) (cj 0 (.rangeFunc v12 [13] HG HH))) (q (R [n (st 1 v2 (c 0))]) rt))), [.cell 2 none], false⟩
def ayW : iw := ⟨30, q (R [o 4 (m (.const (.int .u64 0))), o 5 (m (.const (.int .u64 0)))]) (q (iD kq (q (R [r 11 (m v0), r 12 (.conv .u32 t11), r 13 (m v1), r 14 (.conv .u32 t13), r 15 (gI (fn 373) [t12, t14]), r 10 (m t15), r 16 (ex t10 0), r 17 (ex t10 1), o 6 (m t16), o 7 (m t17)]) (q (R [r 18 (m v6), r 19 (.conv .u64 t18), r 20 (m kp), r 21 (.conv .u64 t20), o 4 (m t19), o 5 (m t21)]) rt)) k) (q (R [r 23 (m v0), r 24 (m v1), r 25 (gI (fn 374) [t23, t24]), r 22 (m t25), r 26 (ex t22 0), r 27 (ex t22 1), o 8 (m t26), o 9 (m t27)]) (q (R [r 28 (m sF), r 29 (m v9), o 4 (m t28), o 5 (m t29)]) rt))), [.tmp 4, .tmp 5], false⟩
def PE : cm := q (R [r 9 (kr 1 v5 kp), r 10 (b2 t9), o 3 (m t10)]) (R [r 11 (m v1), r 12 (m v3), n (.o2 1 t11 t12 jM)])
def ayX : iw := ⟨15, q (R [o 0 (m (.const (.hU)))]) (q (R [r 4 (.mkMap), o 1 (m t4)]) (q (q (R [o 5 (gI (fn 382) [(cs [115, 111, 114, 116, 32, 114, 101, 108, 97, 116, 105, 111, 110, 32, 99, 111, 117, 110, 116, 101, 114, 32, 115, 101, 116, 32, 114, 101, 103, 105, 115, 116, 101, 114, 32, 105, 110, 118, 97, 114, 105, 97, 110, 116, 32, 111, 112, 101, 114, 97, 116, 105, 111, 110, 32, 107, 101, 121, 32, 114, 101, 102, 101, 114, 101, 110, 99, 101, 32, 116, 111, 32, 99, 111, 117, 110, 116, 32, 97, 99, 121, 99, 108, 105, 99, 32, 97, 108, 108, 32, 115, 117, 109, 32, 105, 110, 32, 97, 100, 100, 119, 105, 110, 115, 32, 114, 101, 109, 111, 118, 101, 119, 105, 110, 115, 32, 108, 97, 115, 116, 32, 109, 117, 108, 116, 105, 32, 104, 105, 100, 101, 32, 111, 114, 100, 101, 114, 101, 100, 32, 114, 101, 113, 117, 105, 114, 101, 32, 104, 111, 108, 100, 32, 105, 110, 115, 101, 114, 116, 32, 100, 101, 108, 101, 116, 101, 32, 97, 100, 100, 32, 102, 114, 111, 109, 32, 112, 117, 116, 32, 100, 114, 111, 112, 32, 97, 115, 115, 105, 103, 110, 32, 102, 111, 114, 32, 119, 104, 101, 114, 101, 32, 97, 110, 100, 32, 111, 114, 32, 110, 111, 116])]), o 6 (ia 1 v5), o 7 (m (c 0))]) (cj 0 (.loop (uA 8 6 7 13 1 0 PE)))) (q (R [r 14 (m v1), o 0 (m t14)]) rt))), [.tmp 0], false⟩
def yr : cm := q (q (R [r 21 (m kp), r 22 (m v6), r 23 (ia 0 t22), r 24 (lt t21 t23), r 25 (m t24), rg 26 t25 true (m v6), rg 27 t25 true (m kp), rg 28 t25 true (.p6 t26 t27), rg 29 t25 true (gI (fn 321) [t28]), rg 30 t25 true (no t29), r 31 (jr t25 t30 kq), r 32 (m t31), rg 33 t32 true (m v6), rg 34 t32 true (m kp), rg 35 t32 true (.p6 t33 t34), rg 36 t32 true (ne t35 (.const (.int .u8 35))), r 37 (jr t32 t36 kq), r 38 (m t37), rg 39 t38 true (m v6), rg 40 t38 true (m kp), rg 41 t38 true (.o1 t39 (some t40) none), rg 42 t38 true (gI (fn 322) [t41]), rg 43 t38 true (no t42), o 44 (jr t38 t43 kq)]) (iD aed k (e 3))) (q (cj 4 k) (R [r 45 (m kp), r 46 (df t45 (c 1)), o 7 (m t46)]))
def yp : cm := .seq (.region [⟨some (48, false), .mv (.var 6), none⟩, ⟨some (49, false), .bin .eql (.tmp 48) (.const (.str [])), none⟩, ⟨some (47, true), .mv (.tmp 49), none⟩] none) (.cond (.var 47) (.skip) (.seq (.region [⟨some (51, false), .mv (.var 6), none⟩, ⟨some (52, false), .p6 (.tmp 51) (.const (.int .i64 0)), none⟩, ⟨some (53, false), .call false (.func 316) [(.tmp 52)], none⟩, ⟨some (50, true), .mv (.tmp 53), none⟩] none) (.cond (.var 50) (.seq (.region [⟨some (54, false), .mv (.var 6), none⟩, ⟨some (55, false), .call false (.func 317) [(.tmp 54), (.func 318)], none⟩, ⟨some (7, true), .mv (.tmp 55), none⟩, ⟨some (56, false), .fieldAddr 0 (.var 5), none⟩, ⟨none, .store 1 (.tmp 56) (.const (.int .i64 1)), none⟩] none) (.seq (.region [⟨some (57, false), .load none (.var 2), none⟩, ⟨some (58, false), .mv (.var 6), none⟩, ⟨some (59, false), .mv (.var 7), none⟩, ⟨some (60, false), .o1 (.tmp 58) none (some (.tmp 59)), none⟩, ⟨some (61, true), .lookup 1 (.bool false) (.tmp 57) (.tmp 60) false, none⟩] (some [0, 0, 0, 6, 15])) (.cond (.var 61) (.region [⟨some (62, false), .fieldAddr 0 (.var 5), none⟩, ⟨none, .store 1 (.tmp 62) (.const (.int .i64 2)), none⟩] none) (.skip)))) (.seq (.region [⟨some (64, false), .mv (.var 6), none⟩, ⟨some (65, false), .p6 (.tmp 64) (.const (.int .i64 0)), none⟩, ⟨some (66, false), .call false (.func 319) [(.tmp 65)], none⟩, ⟨some (63, true), .mv (.tmp 66), none⟩] none) (.cond (.var 63) (.region [⟨some (67, false), .mv (.var 6), none⟩, ⟨some (68, false), .call false (.func 317) [(.tmp 67), (.func 319)], none⟩, ⟨some (7, true), .mv (.tmp 68), none⟩, ⟨some (69, false), .fieldAddr 0 (.var 5), none⟩, ⟨none, .store 1 (.tmp 69) (.const (.int .i64 3)), none⟩] none) (.seq (.region [⟨some (71, false), .mv (.var 6), none⟩, ⟨some (72, false), .call false (.func 320) [(.tmp 71)], none⟩, ⟨some (73, false), .bin .gtr (.tmp 72) (.const (.int .i64 0)), none⟩, ⟨some (70, true), .mv (.tmp 73), none⟩] none) (.cond (.var 70) (.region [⟨some (74, false), .mv (.var 6), none⟩, ⟨some (75, false), .call false (.func 320) [(.tmp 74)], none⟩, ⟨some (7, true), .mv (.tmp 75), none⟩, ⟨some (76, false), .fieldAddr 0 (.var 5), none⟩, ⟨none, .store 1 (.tmp 76) (.const (.int .i64 4)), none⟩] none) (.seq (.region [⟨some (20, false), .fieldAddr 0 (.var 5), none⟩, ⟨none, .store 1 (.tmp 20) (.const (.int .i64 5)), none⟩] none) (.seq (.region [⟨some (7, true), .mv (.const (.int .i64 1)), none⟩] none) (.block 3 (.loop yr)))))))))))
def Jx : cm := .region [⟨some (8, false), .mv (.var 4), none⟩, ⟨some (9, false), .mv (.var 4), none⟩, ⟨some (10, false), .load none (.var 1), none⟩, ⟨some (11, false), .mv (.var 4), none⟩, ⟨some (12, false), .o1 (.tmp 10) (some (.tmp 11)) none, none⟩, ⟨some (13, false), .call false (.func 315) [(.tmp 12)], none⟩, ⟨some (14, false), .bin .add (.tmp 9) (.tmp 13), none⟩, ⟨some (15, false), .build [.int .i64 0, .int .i64 0, .int .i64 0, .int .i64 0] [(1, 1, (.tmp 8)), (2, 1, (.tmp 14))], none⟩, ⟨some (5, true), .alloc [.int .i64 0, .int .i64 0, .int .i64 0, .int .i64 0], none⟩, ⟨none, .store 4 (.var 5) (.tmp 15), none⟩] none
def JT : cm := .region [⟨some (16, false), .load none (.var 1), none⟩, ⟨some (17, false), .fieldAddr 2 (.var 5), none⟩, ⟨some (18, false), .load none (.tmp 17), none⟩, ⟨some (19, false), .o1 (.tmp 16) (some (.tmp 18)) none, none⟩, ⟨some (6, true), .mv (.tmp 19), none⟩] none
def JU : cm := .region [⟨some (7, true), .mv (.const (.int .i64 0)), none⟩] none
def DD : cm := .seq (.region [⟨some (77, false), .fieldAddr 2 (.var 5), none⟩, ⟨some (78, false), .load none (.tmp 77), none⟩, ⟨some (79, false), .mv (.var 7), none⟩, ⟨some (80, false), .bin .add (.tmp 78) (.tmp 79), none⟩, ⟨some (81, false), .fieldAddr 3 (.var 5), none⟩, ⟨none, .store 1 (.tmp 81) (.tmp 80), none⟩] none) (.seq (.region [⟨some (82, false), .fieldAddr 3 (.var 5), none⟩, ⟨some (83, false), .load none (.tmp 82), none⟩, ⟨some (4, true), .mv (.tmp 83), none⟩] none) (.seq (.region [⟨some (84, false), .mv (.var 0), none⟩, ⟨some (85, false), .load (some 4) (.var 5), none⟩, ⟨some (86, false), .call false (.tmp 84) [(.tmp 85)], none⟩, ⟨some (87, false), .un .not (.tmp 86), none⟩, ⟨some (88, false), .mv (.tmp 87), none⟩, ⟨some (89, false), .fieldAddr 0 (.var 5), some ((.tmp 88), false)⟩, ⟨some (90, false), .load none (.tmp 89), some ((.tmp 88), false)⟩, ⟨some (91, false), .bin .eql (.tmp 90) (.const (.int .i64 0)), some ((.tmp 88), false)⟩, ⟨some (92, true), .pick (.tmp 88) (.const (.bool true)) (.tmp 91), none⟩] none) (.cond (.var 92) (.ret) (.skip))))
def M3 : cm := cj 1 (q Jx (q JT (q JU (q (cj 2 yp) DD))))
def ayY : iw := ⟨93, q (R [o 4 (m (c 0))]) (cj 0 (.loop M3)), [], false⟩
def ayZ : iw := ⟨51, q (R [o 4 (m (.const (.int .u64 0))), o 5 (m (.const (.int .u64 0)))]) (q (R [r 14 (m v0), r 15 (.bin .and t14 (.const (.int .u64 4294967295))), o 6 (m t15)]) (q (R [r 16 (m v0), r 17 (.bin .shr t16 (.const (.int .u64 32))), o 7 (m t17)]) (q (R [r 18 (m v1), r 19 (.bin .and t18 (.const (.int .u64 4294967295))), o 8 (m t19)]) (q (R [r 20 (m v1), r 21 (.bin .shr t20 (.const (.int .u64 32))), o 9 (m t21)]) (q (R [r 22 (m v6), r 23 (m sF), r 24 (.bin .mul t22 t23), o 10 (m t24)]) (q (R [r 25 (m kp), r 26 (m sF), r 27 (.bin .mul t25 t26), r 28 (m v10), r 29 (.bin .shr t28 (.const (.int .u64 32))), r 30 (df t27 t29), o 11 (m t30)]) (q (R [r 31 (m v11), r 32 (.bin .and t31 (.const (.int .u64 4294967295))), o 12 (m t32)]) (q (R [r 33 (m v11), r 34 (.bin .shr t33 (.const (.int .u64 32))), o 13 (m t34)]) (q (R [r 35 (m v12), r 36 (m v6), r 37 (m v9), r 38 (.bin .mul t36 t37), r 39 (df t35 t38), o 12 (m t39)]) (q (R [r 40 (m kp), r 41 (m v9), r 42 (.bin .mul t40 t41), r 43 (m SZ), r 44 (df t42 t43), r 45 (m v12), r 46 (.bin .shr t45 (.const (.int .u64 32))), r 47 (df t44 t46), o 4 (m t47)]) (q (R [r 48 (m v0), r 49 (m v1), r 50 (.bin .mul t48 t49), o 5 (m t50)]) rt))))))))))), [.tmp 4, .tmp 5], false⟩
end Go.Abs.U
