/- Texts of this claim, joined and written short by a program. -/
import Derived.Test.YtaenhebjdjpdgaaGreatDoorP30
import Derived.Test.YtaenhebjdjpdgaaGreatDoorP00
set_option linter.unusedVariables false
set_option linter.unusedSimpArgs false
namespace Go.Abs.b1
open Go Go.Abs
noncomputable section
def hk (s : List Int) (ts : List Table) (b : Bool) : List Range := ts.flatMap fun t => bif kB t == b then List.replicate (wid s t.aX.l).toNat t.Range else []
theorem Xu {s : List Int} {ts : List Table} : ∀ (l : List Table) (k : Nat) (a p : Int × Int), jy (uZ s ts) some k a l = some p -> ∀ t ∈ l, lK s t = true
 | [], _, _, _, _, t, h => by cases h
 | x :: r, k, a, p, h, t, ht => by
   simp only [jy] at h
   cases cp : uZ s ts k a x with
   | inr o =>
     rw [cp] at h
     have ho : o = none := by
      unfold uZ at cp
      cases bD : lK s x && !(l8 ts k x.Name) <;> cases hb : kB x <;> cases hc : x.c2 == a.1 <;> cases hd : x.c2 == a.2 <;> rw [bD] at cp <;> simp only [hb, hc, hd, cond_true, cond_false] at cp <;> first | (cases cp; rfl) | cases cp
     rw [ho] at h; cases h
   | inl bf =>
     rw [cp] at h
     rcases dS.1 ht with rfl | ht
     · unfold uZ at cp
       cases bd : lK s t && !(l8 ts k t.Name) with
       | false => rw [bd] at cp; cases cp
       | true => simp only [cd] at bd; exact bd.1
     · exact Xu r (k + 1) bf p h t ht
theorem yZ {s : List Int} {ts : List Table} (h : ji s ts = true) : s.length <= 4 /\ ts.length <= 12 /\ kA s = true /\ ∀ t ∈ ts, lK s t = true := by
 unfold ji at h
 simp only [cd, decide_eq_true_eq] at h
 obtain ⟨h1, U, av, bc⟩ := h
 refine ⟨h1, U, av, ?_⟩
 split at bc
 · rename_i a b hr
   exact Xu ts 0 (0, 0) _ hr
 · cases bc
theorem y0 {s : List Int} {t : Table} (h : lK s t = true) : jT s.length t.aX.l = true := by
 unfold lK at h
 simp only [cd] at h
 exact h.2.2.1
theorem Bi {α : Type} {s0 : Nat} {x y : ak α} (hb : s0 + 1 <= 1000) (h : x.l.length + y.l.length <= 1000000000) : ∃ z, rv s0 x y = some z /\ z.l = x.l ++ y.l := by
 unfold rv
 split
 · rename_i e; exact ⟨x, rfl, by rw [e]; simp⟩
 · have : (x.l.length + y.l.length) * (s0 + 1) <= 2 ^ 40 := by
    have : (x.l.length + y.l.length) * (s0 + 1) <= 1000000000 * 1000 := Nat.mul_le_mul h hb
    omega
   rw [if_pos this]
   exact ⟨_, rfl, rfl⟩
theorem ak3 (r : Range) (n : Int) (h : 1 <= n /\ n <= 1000) : ∃ z, C2 (ak.mk [r]) n = some z /\ z.l = List.replicate n.toNat r := by
 refine ⟨_, if_pos ⟨rfl, h⟩, ?_⟩
 show (List.replicate n.toNat [r]).flatten = _
 induction n.toNat with
 | zero => rfl
 | succ n ih => rw [Bw, Ff, ih, Bw]; rfl
theorem OH {s : List Int} (hs : kA s = true) (b : Bool) : ∀ ts : List Table, (∀ t ∈ ts, lK s t = true) -> (hk s ts b).length <= 216 * ts.length
 | [], _ => by simp [hk]
 | t :: ts, h => by
   have ih := OH hs b ts (fun u hu => h u (by simp [hu]))
   have hw := wF hs (y0 (h t (by simp)))
   unfold hk at ih ⊢
   rw [kF, kg, iv]
   have : (bif kB t == b then List.replicate (wid s t.aX.l).toNat t.Range else []).length <= 216 := by
    cases kB t == b <;> simp; omega
   omega
theorem OI (s : List Int) (b : Bool) {ts : List Table} {k : Nat} {t : Table} (h : ts[k]? = some t) : hk s (ts.take (k + 1)) b = hk s (ts.take k) b ++ (bif kB t == b then List.replicate (wid s t.aX.l).toNat t.Range else []) := by
 unfold hk
 rw [wY, h]
 simp
theorem Xv {s : List Int} (hs : kA s = true) (b : Bool) {ts : List Table} (h : ∀ t ∈ ts, lK s t = true) (hl : ts.length <= 12) (k : Nat) : (hk s (ts.take k) b).length <= 2592 := by
 have := OH hs b (ts.take k) (fun t ht => h t (Bv ht))
 have : (ts.take k).length <= 12 := by rw [qP]; omega
 omega
theorem ak4 (s : ak Int) (ts : ak Table) (b : Bool) (h1 : bl s.l) (U : bl ts.l) (hc : ∀ t ∈ ts.l, bl t.aX.l) :
  ∃ x, Hm s ts b = some x /\ x.l = bif ji s.l ts.l then hk s.l ts.l b else [] := by
 unfold Hm
 rw [OD s ts h1 U hc]
 simp only [aW]
 cases af : ji s.l ts.l with
 | false => exact ⟨.nil, rfl, rfl⟩
 | true =>
   obtain ⟨q1, aS, bZ, cR⟩ := yZ af
   obtain ⟨o, ah, e2⟩ := I8 (f := Db s ts b) (fun k st => ∃ a : ak Range, st = ((k : Int), a) /\ a.l = hk s.l (ts.l.take k) b) (fun o => o.l = hk s.l ts.l b) ts.l (fun k t st hx aa => by
    obtain ⟨a, rfl, ao⟩ := aa
    have aH := (fy.1 hx).1
    have dn := fm hx
    have hd : decide ((k : Int) < ts.len) = true := by simp [dF]; exact aH
    have iu := y0 (cR t dn)
    have hw := wF bZ iu
    have jq := Xv bZ b cR aS k
    cases hb : kB t == b with
    | false =>
      refine ⟨(((k + 1 : Nat) : Int), a), ?_, a, rfl, ?_⟩
      · simp only [Db, hd, cond_true, c5, hx, aW, Ja, hb, cond_false]
        rw [gf (by omega) (by omega)]; rfl
      · rw [OI s.l b hx, hb, ao]; simp
    | true =>
      obtain ⟨z, oi, el⟩ := ak3 t.Range (wid s.l t.aX.l) (by omega)
      obtain ⟨y, lk, rO⟩ := Bi (s0 := 16) (x := a) (y := z) (by omega) (by rw [ao, el, vf]; omega)
      refine ⟨(((k + 1 : Nat) : Int), y), ?_, y, rfl, ?_⟩
      · simp only [Db, hd, cond_true, c5, hx, aW, Ja, hb, OA s t.aX bZ iu, oi, lk]
        rw [gf (by omega) (by omega)]; rfl
      · rw [OI s.l b hx, hb, rO, ao, el]; rfl) (fun st aa => by
    obtain ⟨a, rfl, ao⟩ := aa
    have hd : decide ((ts.l.length : Int) < ts.len) = false := by simp [dF]
    refine ⟨a, by simp only [Db, hd, cond_false], ?_⟩
    rw [ao, Fi]) (s := (0, .nil)) ⟨.nil, rfl, rfl⟩
   exact ⟨o, by simp only [cond_true]; rw [ah]; rfl, e2⟩
theorem ak5 {s : ak Int} {ts : ak Table} {b : Bool} (h1 : bl s.l) {k : Nat} {t : Table} (hx : ts.l[k]? = some t) (Je : bl t.aX.l) (bZ : kA s.l = true) (iu : jT s.l.length t.aX.l = true) {a : ak Range} (ao : a.l.length <= 2592) :
  ∃ o, bU (yp s ts b (k : Int)) (0, a) = some o /\ o.l = a.l ++ (bif kB t == b then List.replicate (wid s.l t.aX.l).toNat t.Range else []) := by
 have hw := wF bZ iu
 have Jf : wc s t.aX = some (wid s.l t.aX.l) := by rw [OE s t.aX h1 Je]; unfold EN; rw [bZ, iu]; rfl
 have cp : yo t.Kind = some (kB t) := rfl
 cases hb : kB t == b with
 | false =>
   refine ⟨a, ?_, by simp⟩
   rw [kt]
   have : yp s ts b (k : Int) (0, a) = some (.out a) := by
    simp only [yp, c5, hx, aW, cp, hb, cond_false]
   rw [this]
 | true =>
   obtain ⟨o, ah, e2⟩ := I8 (f := yp s ts b (k : Int)) (fun j st => ∃ x : ak Range, st = ((j : Int), x) /\ x.l = a.l ++ List.replicate j t.Range) (fun o => o.l = a.l ++ List.replicate (wid s.l t.aX.l).toNat t.Range) (List.replicate (wid s.l t.aX.l).toNat ()) (fun j u st hj aa => by
    obtain ⟨x, rfl, h4⟩ := aa
    have aH := (fy.1 hj).1
    rw [vf] at aH
    have hd : decide ((j : Int) < wid s.l t.aX.l) = true := by simp; omega
    obtain ⟨y, lk, rO⟩ := Bi (s0 := 16) (x := x) (y := ak.mk [t.Range]) (by omega) (by rw [h4]; simp only [kg, vf]; show _ + _ + 1 <= _; omega)
    refine ⟨(((j + 1 : Nat) : Int), y), ?_, y, rfl, ?_⟩
    · simp only [yp, c5, hx, aW, cp, hb, cond_true, Jf, hd, lk]
      rw [gf (by omega) (by omega)]; rfl
    · rw [rO, h4, mb]
      congr 1
      rw [PC]; rfl) (fun st aa => by
    obtain ⟨x, rfl, h4⟩ := aa
    rw [vf] at h4 ⊢
    have hd : decide ((((wid s.l t.aX.l).toNat : Nat) : Int) < wid s.l t.aX.l) = false := by simp; omega
    exact ⟨x, by simp only [yp, c5, hx, aW, cp, hb, cond_true, Jf, hd, cond_false], h4⟩) (s := (0, a)) ⟨a, rfl, by simp⟩
   exact ⟨o, ah, by simpa using e2⟩
theorem ak6 (s : ak Int) (ts : ak Table) (b : Bool) (h1 : bl s.l) (U : bl ts.l) (hc : ∀ t ∈ ts.l, bl t.aX.l) (gT : ∀ t ∈ ts.l, mu t.Name = some (jU t.Name)) :
  ∃ x, HM s ts b = some x /\ x.l = bif ji s.l ts.l then hk s.l ts.l b else [] := by
 unfold HM
 rw [OG s ts h1 U hc gT]
 simp only [aW]
 cases af : ji s.l ts.l with
 | false => exact ⟨.emp, rfl, rfl⟩
 | true =>
   obtain ⟨q1, aS, bZ, cR⟩ := yZ af
   obtain ⟨o, ah, e2⟩ := I8 (f := HL s ts b) (fun k st => ∃ a : ak Range, st = ((k : Int), a) /\ a.l = hk s.l (ts.l.take k) b) (fun o => o.l = hk s.l ts.l b) ts.l (fun k t st hx aa => by
    obtain ⟨a, rfl, ao⟩ := aa
    have aH := (fy.1 hx).1
    have dn := fm hx
    have hd : decide ((k : Int) < ts.len) = true := by simp [dF]; exact aH
    have iu := y0 (cR t dn)
    have jq := Xv bZ b cR aS k
    obtain ⟨y, lk, rO⟩ := ak5 (b := b) h1 hx (hc t dn) bZ iu (a := a) (by rw [ao]; exact jq)
    refine ⟨(((k + 1 : Nat) : Int), y), ?_, y, rfl, ?_⟩
    · simp only [HL, hd, cond_true]
      rw [lk]
      simp only [aW]
      rw [gf (by omega) (by omega)]; rfl
    · rw [OI s.l b hx, rO, ao]) (fun st aa => by
    obtain ⟨a, rfl, ao⟩ := aa
    have hd : decide ((ts.l.length : Int) < ts.len) = false := by simp [dF]
    refine ⟨a, by simp only [HL, hd, cond_false], ?_⟩
    rw [ao, Fi]) (s := (0, .emp)) ⟨.emp, rfl, rfl⟩
   exact ⟨o, by simp only [cond_true]; rw [ah]; rfl, e2⟩
end
end Go.Abs.b1
namespace Go.Abs.b1
open Go Go.Abs
noncomputable section
def nq (n m : Int) : Bool := decide (n >= -m) && decide (n <= m)
theorem Jg (n m : Int) (h : 0 <= m /\ m <= 1000000000) : yg n m = some (nq n m) := by
 unfold yg nq
 rw [gf (by omega) (by omega)]
 simp
theorem Jh (n m : Int) (h : 0 <= m /\ m <= 1000000000) : uN n m = some (nq n m) := by
 unfold uN nq
 rw [gf (by omega) (by omega)]
 simp
def s3 (n : Int) (xs : List Term) (k : Nat) (t : Term) : Bool := !(decide (t.Cell <= hR Term.Cell xs k)) && (!(decide (t.Cell >= n)) && (!(t.js == 0) && nq t.js 1000))
def pT (n : Int) (r : Row) : Bool := allI (s3 n r.cY.l) r.cY.l && nq r.l1 1000000000
theorem fj {α : Type} {x : ak α} {k : Nat} (h : k < x.l.length) : decide ((k : Int) < x.len) = true := by rw [dF]; simp; exact h
theorem fP {α : Type} {x : ak α} : decide ((x.l.length : Int) < x.len) = false := by rw [dF]; simp
theorem ep {k : Nat} (h : k < 4611686018427387904) : aQ ((k : Int) + 1) = ((k + 1 : Nat) : Int) := by rw [gf (by omega) (by omega)]; rfl
theorem Bj {k : Nat} (h : k < 4611686018427387904) : aQ (((k + 1 : Nat) : Int) - 1) = (k : Int) := by
 rw [gf (by omega) (by omega)]
 omega
theorem eI {α : Type} {l : List α} {k : Nat} {x : α} (h : l[k]? = some x) : k < l.length := (fy.1 h).1
theorem Xw (j : dJ) (r : Row) (h : bl r.cY.l) : Dd j r = some (pT j.strict.len r) := by
 unfold Dd
 rw [oR (f := Dc j r) (fun k s => s = (hR Term.Cell r.cY.l k, (k : Int))) (s3 j.strict.len r.cY.l) r.cY.l (fun k x s hx aZ _ => by
  subst aZ
  have aH := eI hx
  have ae : Dc j r (hR Term.Cell r.cY.l k, (k : Int)) = bif s3 j.strict.len r.cY.l k x then some (.next (x.Cell, aQ ((k : Int) + 1))) else some (.out (.ret ())) := by
   simp only [Dc, fj aH, cond_true, c5, hx, aW, Jg x.js 1000 (by omega)]
   unfold s3
   cases decide (x.Cell <= hR Term.Cell r.cY.l k) with
   | true => rfl
   | false =>
     cases decide (x.Cell >= j.strict.len) with
     | true => rfl
     | false =>
       cases x.js == 0 with
       | true => rfl
       | false => cases nq x.js 1000 <;> rfl
  rw [ae]
  constructor
  · intro bd
    rw [bd, ep (by unfold bl at h; omega)]
    exact ⟨_, rfl, by rw [yX Term.Cell hx]⟩
  · intro bd; rw [bd]; rfl) (fun s aZ => by subst aZ; simp only [Dc, fP, cond_false]) (s := (-1, 0)) rfl]
 unfold pT
 cases allI (s3 j.strict.len r.cY.l) r.cY.l with
 | false => rfl
 | true =>
   simp only [cond_true, aW, dt]
   rw [Jg _ _ (by omega)]; rfl
theorem Xx (r : Row) (n : Int) (h : bl r.cY.l) : DK r n = some (pT n r) := by
 unfold DK
 rw [oR (f := DJ r n) (fun k s => s = (k : Int)) (s3 n r.cY.l) r.cY.l (fun k x s hx aZ hp => by
  subst aZ
  have aH := eI hx
  have ix : -1 <= hR Term.Cell r.cY.l k := I9 fun j y hj hy => by
   have := hp j y hj hy
   unfold s3 at this
   simp only [cd, pZ, decide_eq_false_iff_not] at this
   omega
  have ae : DJ r n (k : Int) = bif s3 n r.cY.l k x then some (.next (aQ ((k : Int) + 1))) else some (.out (.ret ())) := by
   simp only [DJ, fj aH, cond_true, c5, hx, aW, Jh x.js 1000 (by omega)]
   unfold s3
   by_cases h0 : x.Cell < 0
   · have : decide (x.Cell <= hR Term.Cell r.cY.l k) = true := by simp; omega
     simp [h0, this]
   · have fx : decide (x.Cell < 0) = false := by simpa using h0
     rw [fx]
     by_cases h1 : x.Cell >= n
     · have q1 : decide (x.Cell >= n) = true := by simpa using h1
       rw [q1]
       simp
     · have q1 : decide (x.Cell >= n) = false := by simpa using h1
       rw [q1]
       simp only [cond_false]
       cases k with
       | zero =>
         have : decide (x.Cell <= hR Term.Cell r.cY.l 0) = false := by rw [decide_eq_false_iff_not]; show ¬ (x.Cell <= -1); omega
         rw [this]
         simp only [show decide (((0 : Nat) : Int) > 0) = false from rfl, cond_false]
         cases x.js == 0 with
         | true => rfl
         | false => cases nq x.js 1000 <;> rfl
       | succ k =>
         have ai : k < r.cY.l.length := by omega
         have hy : r.cY.l[k]? = some r.cY.l[k] := by simp [ai]
         have rU : decide ((((k + 1 : Nat)) : Int) > 0) = true := decide_eq_true (by omega)
         have hw : aQ (((k + 1 : Nat) : Int) - 1) = (k : Int) := Bj (by unfold bl at h; omega)
         rw [rU, hw, yX Term.Cell hy]
         simp only [cond_true, c5, hy, aW]
         have : decide (r.cY.l[k].Cell >= x.Cell) = decide (x.Cell <= r.cY.l[k].Cell) := rfl
         rw [this]
         cases decide (x.Cell <= r.cY.l[k].Cell) with
         | true => rfl
         | false =>
           cases x.js == 0 with
           | true => rfl
           | false => cases nq x.js 1000 <;> rfl
  rw [ae]
  constructor
  · intro bd
    rw [bd, ep (by unfold bl at h; omega)]
    exact ⟨_, rfl, rfl⟩
  · intro bd; rw [bd]; rfl) (fun s aZ => by subst aZ; simp only [DJ, fP, cond_false]) (s := 0) rfl]
 unfold pT
 cases allI (s3 n r.cY.l) r.cY.l with
 | false => rfl
 | true =>
   simp only [cond_true, aW, dt]
   rw [Jh _ _ (by omega)]; rfl
def u0 (wG : List bQ) (k : Nat) (x : bQ) : Bool := jU x && !((wG.take k).any fun y => y == x)
def u1 (wG : List bQ) : Bool := allI (u0 wG) wG
theorem ak7 {wG : List bQ} {k : Nat} {x : bQ} (h : wG[k]? = some x) (n : bQ) : (wG.take (k + 1)).any (fun y => y == n) = ((wG.take k).any (fun y => y == n) || x == n) := by
 rw [wY, h]; simp
theorem Xy (a : ak bQ) (h : bl a.l) : Da a = some (u1 a.l) := by
 unfold Da
 rw [oR (f := C9 a) (fun k s => ∃ m, s = ((k : Int), m) /\ ∀ n, (ie m n).getD false = (a.l.take k).any fun y => y == n) (u0 a.l) a.l (fun k x s hx aZ _ => by
  obtain ⟨m, rfl, hm⟩ := aZ
  have aH := eI hx
  have ae : C9 a ((k : Int), m) = bif u0 a.l k x then some (.next ((aQ ((k : Int) + 1)), lC m x true)) else some (.out (.ret ())) := by
   simp only [C9, fj aH, cond_true, c5, hx, aW, Xq, hm]
   unfold u0
   cases jU x with
   | false => rfl
   | true => cases (a.l.take k).any fun y => y == x <;> rfl
  rw [ae]
  constructor
  · intro bd
    rw [bd, ep (by unfold bl at h; omega)]
    refine ⟨_, rfl, _, rfl, fun n => ?_⟩
    rw [Oy, ak7 hx, <- hm n]
    cases e : n == x with
    | true => rw [EM, e]; simp
    | false => rw [EM (a := x), e]; simp
  · intro bd; rw [bd]; rfl) (fun s aZ => by obtain ⟨m, rfl, -⟩ := aZ; simp only [C9, fP, cond_false]) (s := (0, [])) ⟨[], rfl, fun n => rfl⟩]
 unfold u1
 cases allI (u0 a.l) a.l <;> rfl
theorem Xz (a : ak bQ) (x : bQ) (h : bl a.l) : DA a x = some (a.l.any fun y => y == x) := by
 unfold DA
 rw [mA (f := HE a x) a.l h (fun y => y == x) (fun k y hy => by
  simp only [HE, fj (eI hy), cond_true, c5, hy, aW]
  cases y == x <;> rfl) (by simp only [HE, fP, cond_false])]
 cases a.l.any fun y => y == x <;> rfl
theorem ak8 {α : Type} {a : ak α} {k : Nat} (ai : k < a.l.length) : ∃ z, ry a 0 (k : Int) = some z /\ z.l = a.l.take k := by
 cases a with
 | nil => simp [ak.l] at ai
 | emp => simp [ak.l] at ai
 | mk l =>
   simp only [ak.l] at ai
   refine ⟨.mk (l.take k), ?_, rfl⟩
   simp only [ry]
   rw [if_pos (by omega)]
   simp
theorem XA (a : ak bQ) (h : bl a.l) (gT : ∀ x ∈ a.l, mu x = some (jU x)) : DG a = some (u1 a.l) := by
 unfold DG
 rw [oR (f := DF a) (fun k s => s = (k : Int)) (u0 a.l) a.l (fun k x s hx aZ _ => by
  subst aZ
  have aH := eI hx
  obtain ⟨z, oi, el⟩ := ak8 aH
  have aP : bl z.l := by rw [el]; unfold bl at h ⊢; rw [qP]; omega
  have ae : DF a (k : Int) = bif u0 a.l k x then some (.next (aQ ((k : Int) + 1))) else some (.out (.ret ())) := by
   simp only [DF, fj aH, cond_true, c5, hx, aW, gT x (fm hx), oi, Xz z x aP, el]
   unfold u0
   cases jU x with
   | false => rfl
   | true => cases (a.l.take k).any fun y => y == x <;> rfl
  rw [ae]
  constructor
  · intro bd
    rw [bd, ep (by unfold bl at h; omega)]
    exact ⟨_, rfl, rfl⟩
  · intro bd; rw [bd]; rfl) (fun s aZ => by subst aZ; simp only [DF, fP, cond_false]) (s := 0) rfl]
 unfold u1
 cases allI (u0 a.l) a.l <;> rfl
end
end Go.Abs.b1
namespace Go.Abs.b1
open Go Go.Abs
noncomputable section
def EO (a b : ak Term) : Bool := (AA a b).getD false
theorem XB (a b : ak Term) (h : bl a.l) : AA a b = some (EO a b) := by
 have : ∃ r, AA a b = some r := by
  unfold AA
  cases hl : a.len != b.len with
  | true => exact ⟨false, rfl⟩
  | false =>
    have mJ : a.l.length = b.l.length := by
     rw [dF, dF] at hl
     simp at hl; omega
    obtain ⟨o, ah, -⟩ := wE (f := Hp a b) (fun k s => s = (k : Int)) (fun _ => True) a.l (fun k x s hx aZ => by
     subst aZ
     have aH := eI hx
     have hy : b.l[k]? = some b.l[k] := by simp [<- mJ, aH]
     simp only [Hp, fj aH, cond_true, c5, hx, hy, aW]
     cases (x.Cell == b.l[k].Cell && (x.js == b.l[k].js && true)) with
     | true => exact .inl ⟨_, rfl, ep (by unfold bl at h; omega)⟩
     | false => exact .inr ⟨_, rfl, trivial⟩) (fun s aZ => by subst aZ; exact ⟨.go (), by simp only [Hp, fP, cond_false], trivial⟩) (s := 0) rfl
    simp only [cond_false, ah, aW]
    cases o <;> exact ⟨_, rfl⟩
 obtain ⟨r, e⟩ := this
 unfold EO; rw [e]; rfl
theorem ak9 (a b : ak Term) (h : bl a.l) : Nd a b = some (EO a b) := XB a b h
def qI (r : Row) (c f b : Int) : Bool := (r.l1 == b) && EO r.cY (ak.mk [Term.mk c f])
theorem ala (r : Row) (c f b : Int) (h : bl r.cY.l) : Hq r c f b = some (qI r c f b) := by
 unfold Hq qI
 rw [XB _ _ h]
 simp only [aW]
 cases EO r.cY (ak.mk [Term.mk c f]) <;> cases r.l1 == b <;> rfl
theorem XC (r : Row) (c f b : Int) (h : bl r.cY.l) : DI r (Row.mk (ak.mk [Term.mk c f]) b) = some (qI r c f b) := by
 unfold DI qI
 rw [ak9 _ _ h]
 cases r.l1 == b <;> rfl
def y1 (s : List Int) (c : Constraint) (t : Table) : Bool := (t.Kind == 0) && ((t.aX.l.length == 2) && ((t.aX.l.getD 0 0 == t.aX.l.getD 1 0) && ((t.c2 == c.c2) && (fO s (t.aX.l.getD 0 0) == c.qz))))
def wH (s : List Int) (ts : List Table) (c : Constraint) : Bool := (c.Row.cY.l.length == 0) && ((c.Row.l1 == 0) && ts.any (y1 s c))
theorem alb {l : List Int} (h : l.length = 2) : ∃ a b, l = [a, b] := by
 match l, h with
 | [a, b], _ => exact ⟨a, b, rfl⟩
theorem EP {α : Type} (x : ak α) (n : Nat) : ((x.len : Int) == (n : Int)) = (x.l.length == n) := by
 rw [dF]
 cases h : x.l.length == n with
 | true => have : x.l.length = n := by simpa using h
           rw [this]; simp
 | false => have : x.l.length ≠ n := by simpa using h
            simp; omega
theorem XD {s : ak Int} (c : Constraint) (t : Table) (hc : jT s.l.length t.aX.l = true) :
  (((bif (t.Kind == 0) then (bif (t.aX.len == 2) then ((aR t.aX.l 0).bind fun yh => ((aR t.aX.l 1).bind fun mr => (bif (yh == mr) then (bif (t.c2 == c.c2) then ((aR t.aX.l 0).bind fun De => ((aR s.l De).bind fun hG => some (hG == c.qz))) else some false) else some false))) else some false) else some false) : Option (Bool))) = some (y1 s.l c t) := by
 unfold y1
 cases t.Kind == 0 with
 | false => rfl
 | true =>
   have : (t.aX.len == 2) = (t.aX.l.length == 2) := EP t.aX 2
   rw [this]
   cases U : t.aX.l.length == 2 with
   | false => rfl
   | true =>
     obtain ⟨a, b, e⟩ := alb (by simpa using U)
     have hi := (Bg hc).2
     rw [e] at hi ⊢
     have ao := hi a (by simp)
     have i0 : aR [a, b] 0 = some a := c5 [a, b] 0
     have i1 : aR [a, b] 1 = some b := c5 [a, b] 1
     simp only [i0, i1, aW, yY ao.1 ao.2, cond_true, dt]
     simp only [List.getD_cons_zero, List.getD_cons_succ]
     cases a == b with
     | false => rfl
     | true => cases t.c2 == c.c2 <;> rfl
theorem alc (xs : ak Table) (h : bl xs.l) {f : Table -> Option Bool} {p : Table -> Bool} (ae : ∀ x ∈ xs.l, f x = some (p x)) : MM xs f = some (xs.l.any p) := EJ xs h ae
theorem ald (j : dJ) (c : Constraint) (h : bl j.Model.Tables.l) (hc : ∀ t ∈ j.Model.Tables.l, jT j.Model.aO.l.length t.aX.l = true) : Ho j c = some (wH j.Model.aO.l j.Model.Tables.l c) := by
 unfold Ho
 rw [alc j.Model.Tables h (f := fun z0 => Hn c j z0) (p := y1 j.Model.aO.l c) (fun t ht => by
  unfold Hn
  rw [XD c t (hc t ht)]; rfl)]
 have e : (c.Row.cY.len == 0) = (c.Row.cY.l.length == 0) := EP c.Row.cY 0
 rw [e]
 unfold wH
 cases c.Row.cY.l.length == 0 with
 | false => rfl
 | true => cases c.Row.l1 == 0 <;> rfl
theorem ale (m : Model) (c : Constraint) (h : bl m.Tables.l) (hc : ∀ t ∈ m.Tables.l, jT m.aO.l.length t.aX.l = true) : HO m c = some (wH m.aO.l m.Tables.l c) := by
 unfold HO
 rw [mA (f := HN m c) m.Tables.l h (y1 m.aO.l c) (fun k t ht => by
  simp only [HN, fj (eI ht), cond_true, c5, ht, aW]
  rw [XD c t (hc t (fm ht))]
  cases y1 m.aO.l c t <;> rfl) (by simp only [HN, fP, cond_false])]
 have e : decide (c.Row.cY.len > 0) = !(c.Row.cY.l.length == 0) := by
  rw [dF]
  cases h : c.Row.cY.l.length == 0 with
  | true => have : c.Row.cY.l.length = 0 := by simpa using h
            rw [this]; rfl
  | false => have : c.Row.cY.l.length ≠ 0 := by simpa using h
             simp; omega
 rw [e]
 unfold wH
 simp only [bne]
 cases c.Row.cY.l.length == 0 with
 | false => rfl
 | true =>
   cases c.Row.l1 == 0 with
   | false => rfl
   | true => simp only [fQ, zs, cond_false, aW, dt]; cases m.Tables.l.any (y1 m.aO.l c) <;> rfl
def Ji (rs : List Range) (i : Nat) (c : Constraint) : Bool := match rs[i / 2]? with
 | some r => bif i % 2 == 0 then qI c.Row ((i / 2 : Nat) : Int) (-1) (aQ (0 - r.eN)) else qI c.Row ((i / 2 : Nat) : Int) 1 r.eO
 | none => true
def Bk (F : Int) (c : Constraint) : Bool := decide (c.mq >= 0) && decide (c.mq < F)
def Jj (n : Int) (c : Constraint) : Bool := (c.Kind == 0) && ((c.c2 == 0) && ((c.qz == 0) && pT n c.Row))
def u2 (s : List Int) (ts : List Table) (rs : List Range) (F : Int) (i : Nat) (c : Constraint) : Bool :=
 Bk F c && ((bif c.Kind == 0 then (c.c2 == 0) && ((c.qz == 0) && pT rs.length c.Row) else (c.Kind == 1) && wH s ts c) && (bif decide (i / 2 < rs.length) then (c.Kind == 0) && Ji rs i c else true))
def y2 (s : List Int) (ts : List Table) (rs : List Range) (F : Int) (cs : List Constraint) : Bool :=
 decide (cs.length <= 512) && (decide (2 * rs.length <= cs.length) && allI (u2 s ts rs F) cs)
theorem alf {k : Nat} (h : k < 4611686018427387904) : aQ ((k : Int).tdiv 2) = ((k / 2 : Nat) : Int) := by
 have e : ((k : Int).tdiv 2) = ((k / 2 : Nat) : Int) := by
  rw [Int.tdiv_eq_ediv_of_nonneg (by omega)]; omega
 rw [e, gf (by omega) (by omega)]
theorem alg (k : Nat) : (((k : Int).tmod 2) == 0) = (k % 2 == 0) := by
 have e : ((k : Int).tmod 2) = ((k % 2 : Nat) : Int) := by
  rw [Int.tmod_eq_emod_of_nonneg (by omega)]; omega
 rw [e]
 have : k % 2 = 0 \/ k % 2 = 1 := by omega
 rcases this with h | h <;> rw [h] <;> rfl
theorem alh (j : dJ) (h : bl j.Model.c8.l) (hr : j.strict.l.length <= 100000) (ht : bl j.Model.Tables.l) (hc : ∀ t ∈ j.Model.Tables.l, jT j.Model.aO.l.length t.aX.l = true) (hT : ∀ c ∈ j.Model.c8.l, bl c.Row.cY.l) :
  Hr j = some (y2 j.Model.aO.l j.Model.Tables.l j.strict.l j.Model.dR.len j.Model.c8.l) := by
 unfold Hr y2
 have ah : decide (j.Model.c8.len > 512) = !decide (j.Model.c8.l.length <= 512) := by rw [dF]; by_cases q : j.Model.c8.l.length <= 512 <;> simp [q] <;> omega
 have e2 : decide (j.Model.c8.len < aQ (2 * j.strict.len)) = !decide (2 * j.strict.l.length <= j.Model.c8.l.length) := by
  rw [dF, dF, gf (by omega) (by omega)]
  by_cases q : 2 * j.strict.l.length <= j.Model.c8.l.length <;> simp [q] <;> omega
 rw [ah, e2]
 cases decide (j.Model.c8.l.length <= 512) with
 | false => rfl
 | true =>
   cases decide (2 * j.strict.l.length <= j.Model.c8.l.length) with
   | false => rfl
   | true =>
     simp only [fQ, zs, cond_false, dt]
     rw [oR (f := Df j) (fun k s => s = (k : Int)) (u2 j.Model.aO.l j.Model.Tables.l j.strict.l j.Model.dR.len) j.Model.c8.l (fun k c s hx aZ _ => by
      subst aZ
      have aH := eI hx
      have dn := fm hx
      have ai : k < 4611686018427387904 := by unfold bl at h; omega
      have ae : Df j (k : Int) = bif u2 j.Model.aO.l j.Model.Tables.l j.strict.l j.Model.dR.len k c then some (.next (aQ ((k : Int) + 1))) else some (.out (.ret ())) := by
       simp only [Df, fj aH, cond_true, c5, hx, aW, l4, Xw j c.Row (hT c dn), ald j c ht hc, alf ai, alg, ala _ _ _ _ (hT c dn)]
       unfold u2
       show _ = bif Bk _ c && _ then _ else _
       have ali : (decide (c.mq >= 0) && decide (c.mq < j.Model.dR.len)) = Bk j.Model.dR.len c := rfl
       rw [ali]
       cases Bk j.Model.dR.len c with
       | false => rfl
       | true =>
         have hd : decide (((k / 2 : Nat) : Int) < j.strict.len) = decide (k / 2 < j.strict.l.length) := by
          rw [dF]; exact decide_eq_decide.2 (by omega)
         rw [hd]
         have hlen : j.strict.len = (j.strict.l.length : Int) := rfl
         rw [hlen]
         cases q8 : c.Kind == 0 with
         | false =>
           simp only [cond_true, cond_false, dt, bne, q8, o0]
           cases hL : c.Kind == 1 with
           | false => simp
           | true =>
             cases wH j.Model.aO.l j.Model.Tables.l c with
             | false => rfl
             | true =>
               simp only [fQ, cond_false, aW, dt]
               cases bD : decide (k / 2 < j.strict.l.length) with
               | false => rfl
               | true =>
                 have OJ : k / 2 < j.strict.l.length := by simpa using bD
                 have hy : j.strict.l[k / 2]? = some j.strict.l[k / 2] := by simp [OJ]
                 simp only [cond_true, hy, aW, BC, cond_false]
                 cases k % 2 == 0 <;> simp
         | true =>
           simp only [cond_true, dt, bne, q8, fQ, cond_false]
           cases c.c2 == 0 with
           | false => simp
           | true =>
             cases c.qz == 0 with
             | false => simp
             | true =>
               cases pT (j.strict.l.length : Int) c.Row with
               | false => rfl
               | true =>
                 simp only [fQ, cond_false, aW, dt]
                 cases bD : decide (k / 2 < j.strict.l.length) with
                 | false => rfl
                 | true =>
                   have OJ : k / 2 < j.strict.l.length := by simpa using bD
                   have hy : j.strict.l[k / 2]? = some j.strict.l[k / 2] := by simp [OJ]
                   unfold Ji
                   simp only [cond_true, hy, aW]
                   cases k % 2 == 0 with
                   | true =>
                     simp only [cond_true, aW]
                     cases qI c.Row ((k / 2 : Nat) : Int) (-1) (aQ (0 - j.strict.l[k / 2].eN)) <;> rfl
                   | false =>
                     simp only [cond_false, aW]
                     cases qI c.Row ((k / 2 : Nat) : Int) 1 j.strict.l[k / 2].eO <;> rfl
      rw [ae]
      constructor
      · intro bd
        rw [bd, ep ai]
        exact ⟨_, rfl, rfl⟩
      · intro bd; rw [bd]; rfl) (fun s aZ => by subst aZ; simp only [Df, fP, cond_false]) (s := 0) rfl]
     cases allI (u2 j.Model.aO.l j.Model.Tables.l j.strict.l j.Model.dR.len) j.Model.c8.l <;> rfl
def y3 (s : List Int) (ts : List Table) (n : Int) (F : Int) (i : Nat) (c : Constraint) : Bool :=
 Bk F c && (Jj n c || (decide ((i : Int) >= 2 * n) && ((c.Kind == 1) && wH s ts c)))
def y4 (cs : List Constraint) (i : Nat) (r : Range) : Bool := match cs[2 * i]?, cs[2 * i + 1]? with
 | some a, some b => qI a.Row (i : Int) (-1) (aQ (0 - r.eN)) && qI b.Row (i : Int) 1 r.eO
 | _, _ => false
theorem alj {s : List Int} {ts : List Table} {rs : List Range} {F : Int} {cs : List Constraint} (U : 2 * rs.length <= cs.length) :
  (allI (y4 cs) rs && allI (y3 s ts rs.length F) cs) = allI (u2 s ts rs F) cs := by
 rw [BA, cd, EI, EI, EI]
 constructor
 · rintro ⟨ao, hb⟩ k c hc
   have h1 := hb k c hc
   unfold y3 Jj at h1
   unfold u2
   simp only [cd, kG, decide_eq_true_eq] at h1 ⊢
   obtain ⟨ae, hp⟩ := h1
   refine ⟨ae, ?_, ?_⟩
   · rcases hp with ⟨q1, aS, bZ, cR⟩ | ⟨-, q1, aS⟩
     · rw [q1]; simp [aS, bZ, cR]
     · have : c.Kind = 1 := by simpa using q1
       rw [this]; simpa using aS
   · by_cases ai : k / 2 < rs.length
     · have hd : decide (k / 2 < rs.length) = true := by simpa using ai
       rw [hd]
       simp only [cond_true, cd]
       have hr : rs[k / 2]? = some rs[k / 2] := by simp [ai]
       have hs := ao (k / 2) rs[k / 2] hr
       unfold y4 at hs
       split at hs
       · rename_i a b ah e2
         rw [cd] at hs
         refine ⟨?_, ?_⟩
         · rcases hp with ⟨q1, -⟩ | ⟨q1, -⟩
           · exact q1
           · exfalso; omega
         · unfold Ji
           rw [hr]
           simp only []
           cases hm : k % 2 == 0 with
           | true =>
             have : k % 2 = 0 := by simpa using hm
             have e : 2 * (k / 2) = k := by omega
             rw [e, hc] at ah; cases ah
             exact hs.1
           | false =>
             have : k % 2 ≠ 0 := by simpa using hm
             have e : 2 * (k / 2) + 1 = k := by omega
             rw [e, hc] at e2; cases e2
             exact hs.2
       · cases hs
     · have hd : decide (k / 2 < rs.length) = false := by simpa using ai
       rw [hd]; rfl
 · intro h
   refine ⟨fun i r hr => ?_, fun k c hc => ?_⟩
   · have hi := eI hr
     have i1 : 2 * i < cs.length := by omega
     have i2 : 2 * i + 1 < cs.length := by omega
     have g1 : cs[2 * i]? = some cs[2 * i] := by simp [i1]
     have g2 : cs[2 * i + 1]? = some cs[2 * i + 1] := by simp [i2]
     have al := h (2 * i) _ g1
     have a2 := h (2 * i + 1) _ g2
     have d1 : 2 * i / 2 = i := by omega
     have d2 : (2 * i + 1) / 2 = i := by omega
     have m1 : (2 * i % 2 == 0) = true := by simp
     have m2 : ((2 * i + 1) % 2 == 0) = false := by
      have : (2 * i + 1) % 2 = 1 := by omega
      rw [this]; rfl
     have hd : decide (i < rs.length) = true := by simpa using hi
     unfold u2 Ji at al a2
     rw [d1, hd, hr, m1] at al
     rw [d2, hd, hr, m2] at a2
     simp only [cond_true, cond_false, cd] at al a2
     unfold y4
     rw [g1, g2]
     simp only [cd]
     exact ⟨al.2.2.2, a2.2.2.2⟩
   · have a := h k c hc
     unfold u2 at a
     unfold y3 Jj
     simp only [cd, kG, decide_eq_true_eq] at a ⊢
     obtain ⟨ae, hb, hs⟩ := a
     refine ⟨ae, ?_⟩
     cases q8 : c.Kind == 0 with
     | true =>
       rw [q8] at hb
       simp only [cond_true, cd] at hb
       exact .inl ⟨rfl, hb.1, hb.2.1, hb.2.2⟩
     | false =>
       right
       rw [q8] at hb hs
       simp only [cond_false, cd, BC] at hb hs
       refine ⟨?_, hb.1, hb.2⟩
       by_cases ai : k / 2 < rs.length
       · have hd : decide (k / 2 < rs.length) = true := by simpa using ai
         rw [hd] at hs; cases hs
       · omega
theorem XE (m : Model) (h1 : bl m.aO.l) (U : bl m.Tables.l) (hc : ∀ t ∈ m.Tables.l, bl t.aX.l) (gT : ∀ t ∈ m.Tables.l, mu t.Name = some (jU t.Name)) (af : ji m.aO.l m.Tables.l = true) :
  ∃ x, DH m = some x /\ x.l = hk m.aO.l m.Tables.l true := by
 obtain ⟨x, ah, e2⟩ := ak6 m.aO m.Tables true h1 U hc gT
 unfold DH
 rw [af] at e2
 exact ⟨x, by rw [ah]; rfl, e2⟩
theorem XF {s : List Int} {ts : List Table} (af : ji s ts = true) (b : Bool) : (hk s ts b).length <= 2592 := by
 obtain ⟨q1, aS, bZ, cR⟩ := yZ af
 have := OH bZ b ts cR
 omega
theorem alk (m : Model) (h1 : bl m.aO.l) (U : bl m.Tables.l) (fA : ∀ t ∈ m.Tables.l, bl t.aX.l) (gT : ∀ t ∈ m.Tables.l, mu t.Name = some (jU t.Name)) (af : ji m.aO.l m.Tables.l = true)
  (h : bl m.c8.l) (hT : ∀ c ∈ m.c8.l, bl c.Row.cY.l) :
  HP m = some (y2 m.aO.l m.Tables.l (hk m.aO.l m.Tables.l true) m.dR.len m.c8.l) := by
 obtain ⟨x, ex, el⟩ := XE m h1 U fA gT af
 have hr := XF af true
 have iu : ∀ t ∈ m.Tables.l, jT m.aO.l.length t.aX.l = true := fun t ht => y0 ((yZ af).2.2.2 t ht)
 unfold HP y2
 rw [ex]
 simp only [aW]
 rw [<- el] at hr ⊢
 have ah : decide (m.c8.len > 512) = !decide (m.c8.l.length <= 512) := by rw [dF]; by_cases q : m.c8.l.length <= 512 <;> simp [q] <;> omega
 have e2 : decide (m.c8.len < aQ (2 * x.len)) = !decide (2 * x.l.length <= m.c8.l.length) := by
  rw [dF, dF, gf (by omega) (by omega)]
  by_cases q : 2 * x.l.length <= m.c8.l.length <;> simp [q] <;> omega
 rw [ah, e2]
 cases asj : decide (m.c8.l.length <= 512) with
 | false => simp
 | true =>
   cases alm : decide (2 * x.l.length <= m.c8.l.length) with
   | false => rfl
   | true =>
     have hge : 2 * x.l.length <= m.c8.l.length := by simpa using alm
     simp only [fQ, zs, cond_false, dt]
     rw [oR (f := DL m x) (fun k s => s = (k : Int)) (y4 m.c8.l) x.l (fun k r s hx aZ _ => by
      subst aZ
      have aH := eI hx
      have i1 : 2 * k < m.c8.l.length := by omega
      have i2 : 2 * k + 1 < m.c8.l.length := by omega
      have g1 : m.c8.l[2 * k]? = some m.c8.l[2 * k] := by simp [i1]
      have g2 : m.c8.l[2 * k + 1]? = some m.c8.l[2 * k + 1] := by simp [i2]
      have aC : aQ (2 * (k : Int)) = ((2 * k : Nat) : Int) := by rw [gf (by omega) (by omega)]; omega
      have bB : aQ (((2 * k : Nat) : Int) + 1) = ((2 * k + 1 : Nat) : Int) := by rw [gf (by omega) (by omega)]; omega
      have ae : DL m x (k : Int) = bif y4 m.c8.l k r then some (.next (aQ ((k : Int) + 1))) else some (.out (.ret ())) := by
       simp only [DL, fj aH, cond_true, c5, hx, aW, aC, bB, g1, g2, XC _ _ _ _ (hT _ (fm g1)), XC _ _ _ _ (hT _ (fm g2))]
       unfold y4
       rw [g1, g2]
       simp only []
       cases qI m.c8.l[2 * k].Row (k : Int) (-1) (aQ (0 - r.eN)) with
       | false => rfl
       | true => cases qI m.c8.l[2 * k + 1].Row (k : Int) 1 r.eO <;> rfl
      rw [ae]
      constructor
      · intro bd
        rw [bd, ep (by omega)]
        exact ⟨_, rfl, rfl⟩
      · intro bd; rw [bd]; rfl) (fun s aZ => by subst aZ; simp only [DL, fP, cond_false]) (s := 0) rfl]
     rw [<- alj hge]
     cases allI (y4 m.c8.l) x.l with
     | false => rfl
     | true =>
       simp only [cond_true, aW, dt]
       rw [oR (f := DM m x) (fun k s => s = (k : Int)) (y3 m.aO.l m.Tables.l x.l.length m.dR.len) m.c8.l (fun k c s hx aZ _ => by
        subst aZ
        have aH := eI hx
        have dn := fm hx
        have aC : aQ (2 * x.len) = 2 * (x.l.length : Int) := by rw [dF, gf (by omega) (by omega)]
        have ae : DM m x (k : Int) = bif y3 m.aO.l m.Tables.l x.l.length m.dR.len k c then some (.next (aQ ((k : Int) + 1))) else some (.out (.ret ())) := by
         simp only [DM, fj aH, cond_true, c5, hx, aW, Xx c.Row _ (hT c dn), ale m c U iu, aC]
         unfold y3 Bk
         have hlen : x.len = (x.l.length : Int) := rfl
         rw [hlen]
         have mO : decide (c.mq < 0) = !decide (c.mq >= 0) := by by_cases q : c.mq < 0 <;> simp [q] <;> omega
         have pb : decide (c.mq >= m.dR.len) = !decide (c.mq < m.dR.len) := by by_cases q : c.mq < m.dR.len <;> simp [q] <;> omega
         rw [mO, pb]
         cases decide (c.mq >= 0) with
         | false => rfl
         | true =>
           cases decide (c.mq < m.dR.len) with
           | false => rfl
           | true =>
             simp only [fQ, zs, cond_false, dt]
             unfold Jj
             cases c.Kind == 0 <;> cases c.c2 == 0 <;> cases c.qz == 0 <;> cases pT (x.l.length : Int) c.Row <;> cases decide ((k : Int) >= 2 * (x.l.length : Int)) <;> cases c.Kind == 1 <;> cases wH m.aO.l m.Tables.l c <;> rfl
        rw [ae]
        constructor
        · intro bd
          rw [bd, ep (by unfold bl at h; omega)]
          exact ⟨_, rfl, rfl⟩
        · intro bd; rw [bd]; rfl) (fun s aZ => by subst aZ; simp only [DM, fP, cond_false]) (s := 0) rfl]
       cases allI (y3 m.aO.l m.Tables.l x.l.length m.dR.len) m.c8.l <;> rfl
end
end Go.Abs.b1
namespace Go.Abs.b1
open Go Go.Abs
noncomputable section
def u3 (s : List Int) : List Int -> Int -> List Int
 | [], _ => []
 | x :: r, k => (k % fO s x) :: u3 s r (k / fO s x)
def rV (s : List Int) : List Int -> Int -> Int
 | [], k => k
 | x :: r, k => rV s r (k / fO s x)
def y5 (s : List Int) (fk : List Int) (k : Int) : List Int := (u3 s fk.reverse k).reverse
theorem XG (s : List Int) (y : Int) : ∀ (l : List Int) (k : Int), rV s (l ++ [y]) k = rV s l k / fO s y
 | [], k => rfl
 | x :: r, k => XG s y r _
theorem XH (s : List Int) (y : Int) : ∀ (l : List Int) (k : Int), u3 s (l ++ [y]) k = u3 s l k ++ [rV s l k % fO s y]
 | [], k => rfl
 | x :: r, k => by simp only [oX, u3, rV]; rw [XH s y r]
theorem XI (s : List Int) : ∀ (l : List Int) (k : Int), (u3 s l k).length = l.length
 | [], k => rfl
 | x :: r, k => by simp only [u3, iv, XI s r]
theorem XJ {s : List Int} (hs : kA s = true) : ∀ (l : List Int) (k : Int), (∀ x ∈ l, 0 <= x /\ x < s.length) -> 0 <= k -> 0 <= rV s l k /\ rV s l k <= k
 | [], k, _, h => ⟨h, Int.le_refl _⟩
 | x :: r, k, hx, h => by
   obtain ⟨q1, aS⟩ := EK hs (hx x (by simp)).1 (hx x (by simp)).2
   have h1 : 0 <= k / fO s x := Int.ediv_nonneg h (by omega)
   have U : k / fO s x <= k := Int.ediv_le_self _ h
   have := XJ hs r (k / fO s x) (fun y hy => hx y (by simp [hy])) h1
   simp only [rV]; omega
theorem XK {a b : Int} (ao : 0 <= a) (hb : 1 <= b) : Al a b = some (a % b) := by
 unfold Al
 rw [if_neg (by omega), Int.tmod_eq_emod_of_nonneg ao]
theorem XL {a b : Int} (ao : 0 <= a) (hb : 1 <= b) (h : a <= 1000000) : Ak a b = some (a / b) := by
 unfold Ak
 have h1 : 0 <= a / b := Int.ediv_nonneg ao (by omega)
 have U : a / b <= a := Int.ediv_le_self _ ao
 rw [if_neg (by omega), Int.tdiv_eq_ediv_of_nonneg ao, gf (by omega) (by omega)]
theorem aln {n j : Nat} (hj : j < n) (v : Int) (t : List Int) : (List.replicate (n - j) 0 ++ t).set (n - 1 - j) v = List.replicate (n - (j + 1)) 0 ++ (v :: t) := by
 have e : n - j = (n - (j + 1)) + 1 := by omega
 have e2 : n - 1 - j = n - (j + 1) := by omega
 rw [e, e2, PC, mb, List.set_append_right _ _ (by simp)]
 simp
theorem XM {s : ak Int} {fk : ak Int} {f : (Int × Int × ak Int) -> Option (cM (Int × Int × ak Int) (ak Int))}
  (ER : ∀ (k : Int) (i : Nat) (t : ak Int) (x : Int), fk.l[i]? = some x -> 0 <= k -> k <= 1000000 -> i < t.l.length -> 1 <= fO s.l x -> f (k, (i : Int), t) = some (.next (k / fO s.l x, aQ ((i : Int) - 1), nR t (i : Int) (k % fO s.l x))))
  (mU : ∀ (k : Int) (t : ak Int), f (k, -1, t) = some (.out t)) (hs : kA s.l = true) (hc : jT s.l.length fk.l = true) {d : Int} (h0 : 0 <= d) (h1 : d <= 1000000) {z : ak Int} (aP : z.l = List.replicate fk.l.length 0) :
  ∃ o, bU f (d, (fk.l.length : Int) - 1, z) = some o /\ o.l = y5 s.l fk.l d := by
 obtain ⟨q1, aS⟩ := Bg hc
 have ot : fk.l.reverse.length = fk.l.length := List.length_reverse
 refine I8 (f := f) (fun j st => ∃ t : ak Int, st = (rV s.l (fk.l.reverse.take j) d, (fk.l.length : Int) - 1 - j, t) /\ t.l = List.replicate (fk.l.length - j) 0 ++ (u3 s.l (fk.l.reverse.take j) d).reverse) (fun o => o.l = y5 s.l fk.l d) fk.l.reverse (fun j x st hx aa => ?_) (fun st aa => ?_) ⟨z, by simp [rV], by rw [aP]; simp [u3]⟩
 · obtain ⟨t, rfl, ht⟩ := aa
   have hj := eI hx
   rw [ot] at hj
   have qJ : fk.l[fk.l.length - 1 - j]? = some x := by
    rw [List.getElem?_reverse (by omega)] at hx; exact hx
   have wI := aS x (fm qJ)
   obtain ⟨p1, p2⟩ := EK hs wI.1 wI.2
   have hb := XJ hs (fk.l.reverse.take j) d (fun y hy => aS y (List.mem_reverse.1 (Bv hy))) h0
   have asl : t.l.length = fk.l.length := by
    rw [ht, kg, vf, List.length_reverse, XI, qP, ot]; omega
   have alo : (fk.l.length : Int) - 1 - j = ((fk.l.length - 1 - j : Nat) : Int) := by omega
   have XN : fk.l.reverse.take (j + 1) = fk.l.reverse.take j ++ [x] := by rw [wY, hx]; rfl
   rw [alo]
   refine ⟨_, ER _ _ t x qJ hb.1 (by omega) (by omega) p1, nR t ((fk.l.length - 1 - j : Nat) : Int) (rV s.l (fk.l.reverse.take j) d % fO s.l x), ?_, ?_⟩
   · rw [XN, XG]
     have : aQ (((fk.l.length - 1 - j : Nat) : Int) - 1) = (fk.l.length : Int) - 1 - ((j + 1 : Nat) : Int) := by
      rw [gf (by omega) (by omega)]; omega
     rw [this]
   · show t.l.set _ _ = _
     rw [ht, JM, aln hj, XN, XH, List.reverse_append]
     rfl
 · obtain ⟨t, rfl, ht⟩ := aa
   rw [ot]
   have e : (fk.l.length : Int) - 1 - (fk.l.length : Nat) = -1 := by omega
   rw [e]
   refine ⟨t, mU _ t, ?_⟩
   rw [ht, ot, <- ot, Fi]
   simp [y5]
theorem XO (n : Nat) (h : n <= 1000000) : ∃ z, vZ 8 (0 : Int) (n : Int) = some z /\ z.l = List.replicate n 0 := by
 unfold vZ
 rw [if_pos ⟨by omega, by omega⟩]
 by_cases hn : (n : Int) = 0
 · have : n = 0 := by omega
   subst this
   exact ⟨_, rfl, rfl⟩
 · rw [if_neg hn]
   exact ⟨_, rfl, rfl⟩
def kC (s : List Int) (b : Bool) (c : Int) (t : Table) : Bool := (kB t == b) && (decide (aQ (c - t.c2) >= 0) && decide (aQ (c - t.c2) < wid s t.aX.l))
theorem XP {α : Type} {p : α -> Bool} {xs : List α} (h : ∀ x ∈ xs, p x = false) : xs.findIdx? p = none := by
 rw [List.findIdx?_eq_none_iff]; exact h
theorem OK {α : Type} {p : α -> Bool} : ∀ {xs : List α} {k : Nat} {x : α}, (∀ j y, j < k -> xs[j]? = some y -> p y = false) -> xs[k]? = some x -> p x = true -> xs.findIdx? p = some k
 | [], k, x, _, hx, _ => by cases hx
 | y :: r, 0, x, _, hx, hp => by
   simp only [pV, aA] at hx
   subst hx
   rw [PL, if_pos hp]
 | y :: r, k + 1, x, h, hx, hp => by
   have h0 := h 0 y (by omega) rfl
   rw [PL, h0, if_neg (by simp), OK (k := k) (x := x) (fun j z hj aP => h (j + 1) z (by omega) (by simpa using aP)) (by simpa using hx) hp]
   rfl
structure XQ (s : List Int) (ts : List Table) (b : Bool) (c : Int) (r : Int × ak Int × Bool) : Prop where
 no : (ji s ts = false \/ c < 0 \/ ts.findIdx? (kC s b c) = none) -> r = (0, .nil, false)
 yes : ∀ i t, ji s ts = true -> 0 <= c -> ts.findIdx? (kC s b c) = some i -> ts[i]? = some t -> r.1 = (i : Int) /\ r.2.2 = true /\ r.2.1.l = y5 s t.aX.l (aQ (c - t.c2))
theorem alp (s : ak Int) (ts : ak Table) (b : Bool) (c : Int) (h1 : bl s.l) (U : bl ts.l) (hc : ∀ t ∈ ts.l, bl t.aX.l) : ∃ r, Hy s ts b c = some r /\ XQ s.l ts.l b c r := by
 unfold Hy
 rw [OD s ts h1 U hc]
 simp only [aW]
 cases af : ji s.l ts.l with
 | false => exact ⟨_, rfl, ⟨fun _ => rfl, fun i t h => by rw [af] at h; cases h⟩⟩
 | true =>
   simp only [cond_true, aW]
   by_cases h0 : c < 0
   · have hd : decide (c < 0) = true := by simpa using h0
     rw [hd]
     exact ⟨_, rfl, ⟨fun _ => rfl, fun i t _ h => by omega⟩⟩
   · have hd : decide (c < 0) = false := by simpa using h0
     rw [hd]
     simp only [cond_false]
     obtain ⟨q1, aS, bZ, cR⟩ := yZ af
     obtain ⟨o, ah, e2⟩ := wE (f := Dj s ts b c) (fun k st => st = (k : Int) /\ ∀ j y, j < k -> ts.l[j]? = some y -> kC s.l b c y = false)
      (fun o => match o with
        | .go _ => ts.l.findIdx? (kC s.l b c) = none
        | .ret p => ∃ (i : Nat) (t : Table), ts.l.findIdx? (kC s.l b c) = some i /\ ts.l[i]? = some t /\ p.1 = (i : Int) /\ p.2.l = y5 s.l t.aX.l (aQ (c - t.c2))) ts.l (fun k t st hx aa => by
      obtain ⟨rfl, iI⟩ := aa
      have aH := eI hx
      have dn := fm hx
      have iu := y0 (cR t dn)
      have hw := wF bZ iu
      have en : (((Aw t).bind fun nU => (bif (nU == b) then (bif (decide ((aQ (c - t.c2)) < 0)) then some true else ((sP s t.aX).bind fun l3 => some (decide ((aQ (c - t.c2)) >= l3)))) else some true)) : Option Bool) = some (!kC s.l b c t) := by
       rw [Ja, OA s t.aX bZ iu]
       unfold kC
       simp only [aW]
       cases kB t == b with
       | false => rfl
       | true =>
         simp only [cond_true, dt]
         by_cases g1 : aQ (c - t.c2) < 0
         · have a : decide (aQ (c - t.c2) < 0) = true := by simpa using g1
           have a2 : decide (aQ (c - t.c2) >= 0) = false := by simp; omega
           rw [a, a2]; rfl
         · have a : decide (aQ (c - t.c2) < 0) = false := by simpa using g1
           have a2 : decide (aQ (c - t.c2) >= 0) = true := by simp; omega
           rw [a, a2]
           by_cases g2 : aQ (c - t.c2) < wid s.l t.aX.l
           · have ec : decide (aQ (c - t.c2) < wid s.l t.aX.l) = true := by simpa using g2
             have gJ : decide (aQ (c - t.c2) >= wid s.l t.aX.l) = false := by simp; omega
             rw [ec, gJ]; rfl
           · have ec : decide (aQ (c - t.c2) < wid s.l t.aX.l) = false := by simpa using g2
             have gJ : decide (aQ (c - t.c2) >= wid s.l t.aX.l) = true := by simp; omega
             rw [ec, gJ]; rfl
      have ae : Dj s ts b c (k : Int) = bif !kC s.l b c t then some (.next (aQ ((k : Int) + 1))) else ((vZ 8 0 t.aX.len).bind fun Dk => ((bU (Hw s t) ((aQ (c - t.c2)), (aQ (Dk.len - 1)), Dk) : Option ((ak Int))).bind fun MT => some (.out (.ret ((k : Int), MT))))) := by
       simp only [Dj, fj aH, cond_true, c5, hx, aW]
       rw [en]; rfl
      rw [ae]
      cases eK : kC s.l b c t with
      | false =>
        left
        refine ⟨_, rfl, ?_, fun j y hj hy => ?_⟩
        · exact ep (by omega)
        · by_cases e : j = k
          · subst e; rw [hx] at hy; cases hy; exact eK
          · exact iI j y (by omega) hy
      | true =>
        right
        simp only [fQ, cond_false]
        have y6 := eK
        unfold kC at y6
        simp only [cd, decide_eq_true_eq] at y6
        obtain ⟨e8, hC⟩ := Bg iu
        obtain ⟨z, oi, u4⟩ := XO t.aX.l.length (by omega)
        have alq : z.len = (t.aX.l.length : Int) := by rw [dF, u4, vf]
        obtain ⟨o, g1, g2⟩ := XM (s := s) (fk := t.aX) (f := Hw s t) (fun k i y7 x qJ ai xm hit dP => by
         have wI := hC x (fm qJ)
         have B2 : decide ((i : Int) >= 0) = true := by simp
         have OL : y7.l[i]? = some y7.l[i] := by simp [hit]
         simp only [Hw, B2, cond_true, c5, qJ, aW, yY wI.1 wI.2, XK ai dP, XL ai dP xm, OL]) (fun k y7 => rfl) bZ iu y6.2.1 (by omega) u4
        have alr : aQ (z.len - 1) = (t.aX.l.length : Int) - 1 := by rw [alq, gf (by omega) (by omega)]
        refine ⟨.ret ((k : Int), o), ?_, k, t, OK iI hx eK, hx, rfl, g2⟩
        have : t.aX.len = ((t.aX.l.length : Nat) : Int) := rfl
        rw [this, oi]
        simp only [aW]
        rw [alr, g1]; rfl) (fun st aa => by
      obtain ⟨rfl, iI⟩ := aa
      refine ⟨.go (), by simp only [Dj, fP, cond_false], XP fun x hx => ?_⟩
      obtain ⟨j, hj⟩ := nu.1 hx
      exact iI j x (eI hj) hj) (s := 0) ⟨rfl, fun j y hj => by omega⟩
     cases o with
     | go u =>
       refine ⟨_, by rw [ah]; rfl, ⟨fun _ => rfl, fun i t _ _ hi => ?_⟩⟩
       simp only at e2; rw [e2] at hi; cases hi
     | ret p =>
       obtain ⟨i, t, al, a2, a3, a4⟩ := e2
       refine ⟨_, by rw [ah]; rfl, ⟨fun h => ?_, fun w5 e5 _ _ hi ht => ?_⟩⟩
       · rcases h with h | h | h
         · rw [af] at h; cases h
         · omega
         · rw [al] at h; cases h
       · rw [al] at hi; cases hi; rw [a2] at ht; cases ht
         exact ⟨a3, rfl, a4⟩
theorem als {s fk : ak Int} (hs : kA s.l = true) (hc : jT s.l.length fk.l = true) {d : Int} (h0 : 0 <= d) (h1 : d <= 1000000) : ∃ o, DP s fk d = some o /\ o.l = y5 s.l fk.l d := by
 obtain ⟨e8, hC⟩ := Bg hc
 obtain ⟨z, oi, u4⟩ := XO fk.l.length (by omega)
 obtain ⟨o, g1, g2⟩ := XM (s := s) (fk := fk) (f := Nf s fk) (fun k i y7 x qJ ai xm hit dP => by
  have wI := hC x (fm qJ)
  have B2 : decide ((i : Int) >= 0) = true := by simp
  have OL : y7.l[i]? = some y7.l[i] := by simp [hit]
  simp only [Nf, B2, cond_true, c5, qJ, aW, yY wI.1 wI.2, XK ai dP, XL ai dP xm, OL]) (fun k y7 => rfl) hs hc h0 h1 u4
 refine ⟨o, ?_, g2⟩
 unfold DP
 have : fk.len = ((fk.l.length : Nat) : Int) := rfl
 rw [this, oi]
 simp only [aW]
 rw [gf (by omega) (by omega), g1]; rfl
theorem alu (s : ak Int) (ts : ak Table) (b : Bool) (c : Int) (h1 : bl s.l) (U : bl ts.l) (hc : ∀ t ∈ ts.l, bl t.aX.l) (gT : ∀ t ∈ ts.l, mu t.Name = some (jU t.Name)) : ∃ r, HQ s ts b c = some r /\ XQ s.l ts.l b c r := by
 unfold HQ
 rw [OG s ts h1 U hc gT]
 simp only [aW]
 cases af : ji s.l ts.l with
 | false => exact ⟨_, rfl, ⟨fun _ => rfl, fun i t h => by rw [af] at h; cases h⟩⟩
 | true =>
   simp only [cond_true, aW]
   obtain ⟨q1, aS, bZ, cR⟩ := yZ af
   obtain ⟨o, ah, e2⟩ := wE (f := DQ s ts b c) (fun k st => st = (k : Int) /\ ∀ j y, j < k -> ts.l[j]? = some y -> (decide (c >= 0) && kC s.l b c y) = false)
    (fun o => match o with
      | .go _ => c < 0 \/ ts.l.findIdx? (kC s.l b c) = none
      | .ret p => 0 <= c /\ ∃ (i : Nat) (t : Table), ts.l.findIdx? (kC s.l b c) = some i /\ ts.l[i]? = some t /\ p.1 = (i : Int) /\ p.2.l = y5 s.l t.aX.l (aQ (c - t.c2))) ts.l (fun k t st hx aa => by
    obtain ⟨rfl, iI⟩ := aa
    have aH := eI hx
    have dn := fm hx
    have iu := y0 (cR t dn)
    have hw := wF bZ iu
    have Jf : wc s t.aX = some (wid s.l t.aX.l) := by rw [OE s t.aX h1 (hc t dn)]; unfold EN; rw [bZ, iu]; rfl
    have ae : DQ s ts b c (k : Int) = bif (decide (c >= 0) && kC s.l b c t) then ((DP s t.aX (aQ (c - t.c2))).bind fun yr => some (.out (.ret ((k : Int), yr)))) else some (.next (aQ ((k : Int) + 1))) := by
     simp only [DQ, fj aH, cond_true, c5, hx, aW, Jf]
     have cp : yo t.Kind = some (kB t) := rfl
     rw [cp]
     simp only [aW]
     unfold kC
     cases kB t == b with
     | false => simp
     | true =>
       cases decide (c >= 0) with
       | false => rfl
       | true =>
         cases decide (aQ (c - t.c2) >= 0) with
         | false => rfl
         | true => cases decide (aQ (c - t.c2) < wid s.l t.aX.l) <;> rfl
    rw [ae]
    cases eK : (decide (c >= 0) && kC s.l b c t) with
    | false =>
      left
      refine ⟨_, rfl, ep (by omega), fun j y hj hy => ?_⟩
      by_cases e : j = k
      · subst e; rw [hx] at hy; cases hy; exact eK
      · exact iI j y (by omega) hy
    | true =>
      right
      rw [cd, decide_eq_true_eq] at eK
      have y6 := eK.2
      unfold kC at y6
      simp only [cd, decide_eq_true_eq] at y6
      obtain ⟨o, g1, g2⟩ := als (s := s) (fk := t.aX) bZ iu (d := aQ (c - t.c2)) y6.2.1 (by omega)
      have alv : ∀ j y, j < k -> ts.l[j]? = some y -> kC s.l b c y = false := fun j y hj hy => by
       have := iI j y hj hy
       have hd : decide (c >= 0) = true := by simpa using eK.1
       rw [hd, dt] at this; exact this
      exact ⟨.ret ((k : Int), o), by rw [g1]; rfl, eK.1, k, t, OK alv hx eK.2, hx, rfl, g2⟩) (fun st aa => by
    obtain ⟨rfl, iI⟩ := aa
    refine ⟨.go (), by simp only [DQ, fP, cond_false], ?_⟩
    by_cases OM : c < 0
    · exact .inl OM
    · refine .inr (XP fun x hx => ?_)
      obtain ⟨j, hj⟩ := nu.1 hx
      have := iI j x (eI hj) hj
      have hd : decide (c >= 0) = true := by simp; omega
      rw [hd, dt] at this; exact this) (s := 0) ⟨rfl, fun j y hj => by omega⟩
   cases o with
   | go u =>
     refine ⟨_, by rw [ah]; rfl, ⟨fun _ => rfl, fun i t _ h0 hi => ?_⟩⟩
     simp only at e2
     rcases e2 with e2 | e2
     · omega
     · rw [e2] at hi; cases hi
   | ret p =>
     obtain ⟨h0, i, t, al, a2, a3, a4⟩ := e2
     refine ⟨_, by rw [ah]; rfl, ⟨fun h => ?_, fun w5 e5 _ _ hi ht => ?_⟩⟩
     · rcases h with h | h | h
       · rw [af] at h; cases h
       · omega
       · rw [al] at h; cases h
     · rw [al] at hi; cases hi; rw [a2] at ht; cases ht
       exact ⟨a3, rfl, a4⟩
end
end Go.Abs.b1
