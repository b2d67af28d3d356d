/- Texts of this claim, joined and written short by a program. -/
import Derived.Test.YtjgngmpmjbkbpaaGreatDoorP37
import Derived.Test.YtjgngmpmjbkbpaaGreatDoorP00
set_option linter.unusedVariables false
set_option linter.unusedSimpArgs false
set_option linter.unusedSectionVars false
namespace Go.Abs.U
open Go Go.Abs
noncomputable section
def hk (s : List Int) (ts : List Table) (b : Bool) : List Range := ts.flatMap fun t => bif kB t == b then List.replicate (wid s t.aX.l).toNat t.Range else []
theorem Xu {s : List Int} {ts : List Table} : ∀ (l : List Table) (k : Nat) (a p : Int × Int), jy (uZ s ts) some k a l = some p -> ∀ t ∈ l, lK s t = true
 | [], _, _, _, _, t, h => by cases h
 | x :: r, k, a, p, h, t, ht => by
   simp only [jy] at h
   cases cp : uZ s ts k a x with
   | inr o =>
     rw [cp] at h
     have ho : o = none := by
      unfold uZ at cp
      cases bD : lK s x && !(l8 ts k x.Name) <;> cases hb : kB x <;> cases hc : x.c2 == a.1 <;> cases hd : x.c2 == a.2 <;> rw [bD] at cp <;> simp only [hb, hc, hd, cond_true, cond_false] at cp <;> first | (cases cp; rfl) | cases cp
     rw [ho] at h; cases h
   | inl bf =>
     rw [cp] at h
     rcases dS.1 ht with rfl | ht
     · unfold uZ at cp
       cases bd : lK s t && !(l8 ts k t.Name) with
       | false => rw [bd] at cp; cases cp
       | true => simp only [cd] at bd; exact bd.1
     · exact Xu r (k + 1) bf p h t ht
theorem yZ {s : List Int} {ts : List Table} (h : ji s ts = true) : s.length <= 4 /\ ts.length <= 12 /\ kA s = true /\ ∀ t ∈ ts, lK s t = true := by
 unfold ji at h
 simp only [cd, decide_eq_true_eq] at h
 obtain ⟨h1, h2, av, bc⟩ := h
 refine ⟨h1, h2, av, ?_⟩
 split at bc
 · rename_i a b hr
   exact Xu ts 0 (0, 0) _ hr
 · cases bc
theorem y0 {s : List Int} {t : Table} (h : lK s t = true) : jT s.length t.aX.l = true := by
 unfold lK at h
 simp only [cd] at h
 exact h.2.2.1
theorem Bi {α : Type} {s0 : Nat} {x y : ak α} (hb : s0 + 1 <= 1000) (h : x.l.length + y.l.length <= 1000000000) : ∃ z, rv s0 x y = some z /\ z.l = x.l ++ y.l := by
 unfold rv
 split
 · rename_i e; exact ⟨x, rfl, by rw [e]; simp⟩
 · have : (x.l.length + y.l.length) * (s0 + 1) <= 2 ^ 40 := by
    have : (x.l.length + y.l.length) * (s0 + 1) <= 1000000000 * 1000 := Nat.mul_le_mul h hb
    omega
   rw [if_pos this]
   exact ⟨_, rfl, rfl⟩
theorem ak3 (r : Range) (n : Int) (h : 1 <= n /\ n <= 1000) : ∃ z, C2 (ak.mk [r]) n = some z /\ z.l = List.replicate n.toNat r := by
 refine ⟨_, if_pos ⟨rfl, h⟩, ?_⟩
 show (List.replicate n.toNat [r]).flatten = _
 induction n.toNat with
 | zero => rfl
 | succ n ih => rw [Bw, Ff, ih, Bw]; rfl
theorem OH {s : List Int} (hs : kA s = true) (b : Bool) : ∀ ts : List Table, (∀ t ∈ ts, lK s t = true) -> (hk s ts b).length <= 216 * ts.length
 | [], _ => by simp [hk]
 | t :: ts, h => by
   have ih := OH hs b ts (fun u hu => h u (by simp [hu]))
   have hw := wF hs (y0 (h t (by simp)))
   unfold hk at ih ⊢
   rw [kF, kg, iv]
   have : (bif kB t == b then List.replicate (wid s t.aX.l).toNat t.Range else []).length <= 216 := by
    cases kB t == b <;> simp; omega
   omega
theorem OI (s : List Int) (b : Bool) {ts : List Table} {k : Nat} {t : Table} (h : ts[k]? = some t) : hk s (ts.take (k + 1)) b = hk s (ts.take k) b ++ (bif kB t == b then List.replicate (wid s t.aX.l).toNat t.Range else []) := by
 unfold hk
 rw [wY, h]
 simp
theorem Xv {s : List Int} (hs : kA s = true) (b : Bool) {ts : List Table} (h : ∀ t ∈ ts, lK s t = true) (hl : ts.length <= 12) (k : Nat) : (hk s (ts.take k) b).length <= 2592 := by
 have := OH hs b (ts.take k) (fun t ht => h t (Bv ht))
 have : (ts.take k).length <= 12 := by rw [qP]; omega
 omega
theorem ak4 (s : ak Int) (ts : ak Table) (b : Bool) (h1 : bl s.l) (h2 : bl ts.l) (hc : ∀ t ∈ ts.l, bl t.aX.l) :
  ∃ x, Hm s ts b = some x /\ x.l = bif ji s.l ts.l then hk s.l ts.l b else [] := by
 unfold Hm
 rw [OD s ts h1 h2 hc]
 simp only [aW]
 cases af : ji s.l ts.l with
 | false => exact ⟨.nil, rfl, rfl⟩
 | true =>
   obtain ⟨q1, aS, bZ, cR⟩ := yZ af
   obtain ⟨o, ah, e2⟩ := I8 (f := Db s ts b) (fun k st => ∃ a : ak Range, st = ((k : Int), a) /\ a.l = hk s.l (ts.l.take k) b) (fun o => o.l = hk s.l ts.l b) ts.l (fun k t st hx aa => by
    obtain ⟨a, rfl, ao⟩ := aa
    have aH := (fy.1 hx).1
    have dn := fm hx
    have hd : decide ((k : Int) < ts.len) = true := by simp [dF]; exact aH
    have iu := y0 (cR t dn)
    have hw := wF bZ iu
    have jq := Xv bZ b cR aS k
    cases hb : kB t == b with
    | false =>
      refine ⟨(((k + 1 : Nat) : Int), a), ?_, a, rfl, ?_⟩
      · simp only [Db, hd, cond_true, c5, hx, aW, Ja, hb, cond_false]
        rw [gf (by omega) (by omega)]; rfl
      · rw [OI s.l b hx, hb, ao]; simp
    | true =>
      obtain ⟨z, oi, el⟩ := ak3 t.Range (wid s.l t.aX.l) (by omega)
      obtain ⟨y, lk, rO⟩ := Bi (s0 := 16) (x := a) (y := z) (by omega) (by rw [ao, el, vf]; omega)
      refine ⟨(((k + 1 : Nat) : Int), y), ?_, y, rfl, ?_⟩
      · simp only [Db, hd, cond_true, c5, hx, aW, Ja, hb, OA s t.aX bZ iu, oi, lk]
        rw [gf (by omega) (by omega)]; rfl
      · rw [OI s.l b hx, hb, rO, ao, el]; rfl) (fun st aa => by
    obtain ⟨a, rfl, ao⟩ := aa
    have hd : decide ((ts.l.length : Int) < ts.len) = false := by simp [dF]
    refine ⟨a, by simp only [Db, hd, cond_false], ?_⟩
    rw [ao, Fi]) (s := (0, .nil)) ⟨.nil, rfl, rfl⟩
   exact ⟨o, by simp only [cond_true]; rw [ah]; rfl, e2⟩
end
end Go.Abs.U
namespace Go.Abs.U
open Go Go.Abs
noncomputable section
def nq (n m : Int) : Bool := decide (n >= -m) && decide (n <= m)
theorem Jg (n m : Int) (h : 0 <= m /\ m <= 1000000000) : yg n m = some (nq n m) := by
 unfold yg nq
 rw [gf (by omega) (by omega)]
 simp
def s3 (n : Int) (xs : List Term) (k : Nat) (t : Term) : Bool := !(decide (t.Cell <= hR Term.Cell xs k)) && (!(decide (t.Cell >= n)) && (!(t.js == 0) && nq t.js 1000))
def pT (n : Int) (r : Row) : Bool := allI (s3 n r.cY.l) r.cY.l && nq r.l1 1000000000
theorem fj {α : Type} {x : ak α} {k : Nat} (h : k < x.l.length) : decide ((k : Int) < x.len) = true := by rw [dF]; simp; exact h
theorem fP {α : Type} {x : ak α} : decide ((x.l.length : Int) < x.len) = false := by rw [dF]; simp
theorem ep {k : Nat} (h : k < 4611686018427387904) : aQ ((k : Int) + 1) = ((k + 1 : Nat) : Int) := by rw [gf (by omega) (by omega)]; rfl
theorem Bj {k : Nat} (h : k < 4611686018427387904) : aQ (((k + 1 : Nat) : Int) - 1) = (k : Int) := by
 rw [gf (by omega) (by omega)]
 omega
theorem eI {α : Type} {l : List α} {k : Nat} {x : α} (h : l[k]? = some x) : k < l.length := (fy.1 h).1
theorem Xw (j : dJ) (r : Row) (h : bl r.cY.l) : Dd j r = some (pT j.strict.len r) := by
 unfold Dd
 rw [oR (f := Dc j r) (fun k s => s = (hR Term.Cell r.cY.l k, (k : Int))) (s3 j.strict.len r.cY.l) r.cY.l (fun k x s hx aZ _ => by
  subst aZ
  have aH := eI hx
  have ae : Dc j r (hR Term.Cell r.cY.l k, (k : Int)) = bif s3 j.strict.len r.cY.l k x then some (.next (x.Cell, aQ ((k : Int) + 1))) else some (.out (.ret ())) := by
   simp only [Dc, fj aH, cond_true, c5, hx, aW, Jg x.js 1000 (by omega)]
   unfold s3
   cases decide (x.Cell <= hR Term.Cell r.cY.l k) with
   | true => rfl
   | false =>
     cases decide (x.Cell >= j.strict.len) with
     | true => rfl
     | false =>
       cases x.js == 0 with
       | true => rfl
       | false => cases nq x.js 1000 <;> rfl
  rw [ae]
  constructor
  · intro bd
    rw [bd, ep (by unfold bl at h; omega)]
    exact ⟨_, rfl, by rw [yX Term.Cell hx]⟩
  · intro bd; rw [bd]; rfl) (fun s aZ => by subst aZ; simp only [Dc, fP, cond_false]) (s := (-1, 0)) rfl]
 unfold pT
 cases allI (s3 j.strict.len r.cY.l) r.cY.l with
 | false => rfl
 | true =>
   simp only [cond_true, aW, dt]
   rw [Jg _ _ (by omega)]; rfl
def u0 (wG : List bQ) (k : Nat) (x : bQ) : Bool := jU x && !((wG.take k).any fun y => y == x)
def u1 (wG : List bQ) : Bool := allI (u0 wG) wG
theorem ak7 {wG : List bQ} {k : Nat} {x : bQ} (h : wG[k]? = some x) (n : bQ) : (wG.take (k + 1)).any (fun y => y == n) = ((wG.take k).any (fun y => y == n) || x == n) := by
 rw [wY, h]; simp
theorem Xy (a : ak bQ) (h : bl a.l) : Da a = some (u1 a.l) := by
 unfold Da
 rw [oR (f := C9 a) (fun k s => ∃ m, s = ((k : Int), m) /\ ∀ n, (ie m n).getD false = (a.l.take k).any fun y => y == n) (u0 a.l) a.l (fun k x s hx aZ _ => by
  obtain ⟨m, rfl, hm⟩ := aZ
  have aH := eI hx
  have ae : C9 a ((k : Int), m) = bif u0 a.l k x then some (.next ((aQ ((k : Int) + 1)), lC m x true)) else some (.out (.ret ())) := by
   simp only [C9, fj aH, cond_true, c5, hx, aW, Xq, hm]
   unfold u0
   cases jU x with
   | false => rfl
   | true => cases (a.l.take k).any fun y => y == x <;> rfl
  rw [ae]
  constructor
  · intro bd
    rw [bd, ep (by unfold bl at h; omega)]
    refine ⟨_, rfl, _, rfl, fun n => ?_⟩
    rw [Oy, ak7 hx, <- hm n]
    cases e : n == x with
    | true => rw [EM, e]; simp
    | false => rw [EM (a := x), e]; simp
  · intro bd; rw [bd]; rfl) (fun s aZ => by obtain ⟨m, rfl, -⟩ := aZ; simp only [C9, fP, cond_false]) (s := (0, [])) ⟨[], rfl, fun n => rfl⟩]
 unfold u1
 cases allI (u0 a.l) a.l <;> rfl
end
end Go.Abs.U
namespace Go.Abs.U
open Go Go.Abs
noncomputable section
def EO (a b : ak Term) : Bool := (AA a b).getD false
theorem XB (a b : ak Term) (h : bl a.l) : AA a b = some (EO a b) := by
 have : ∃ r, AA a b = some r := by
  unfold AA
  cases hl : a.len != b.len with
  | true => exact ⟨false, rfl⟩
  | false =>
    have mJ : a.l.length = b.l.length := by
     rw [dF, dF] at hl
     simp at hl; omega
    obtain ⟨o, ah, -⟩ := wE (f := Hp a b) (fun k s => s = (k : Int)) (fun _ => True) a.l (fun k x s hx aZ => by
     subst aZ
     have aH := eI hx
     have hy : b.l[k]? = some b.l[k] := by simp [<- mJ, aH]
     simp only [Hp, fj aH, cond_true, c5, hx, hy, aW]
     cases (x.Cell == b.l[k].Cell && (x.js == b.l[k].js && true)) with
     | true => exact .inl ⟨_, rfl, ep (by unfold bl at h; omega)⟩
     | false => exact .inr ⟨_, rfl, trivial⟩) (fun s aZ => by subst aZ; exact ⟨.go (), by simp only [Hp, fP, cond_false], trivial⟩) (s := 0) rfl
    simp only [cond_false, ah, aW]
    cases o <;> exact ⟨_, rfl⟩
 obtain ⟨r, e⟩ := this
 unfold EO; rw [e]; rfl
def qI (r : Row) (c f b : Int) : Bool := (r.l1 == b) && EO r.cY (ak.mk [Term.mk c f])
theorem ala (r : Row) (c f b : Int) (h : bl r.cY.l) : Hq r c f b = some (qI r c f b) := by
 unfold Hq qI
 rw [XB _ _ h]
 simp only [aW]
 cases EO r.cY (ak.mk [Term.mk c f]) <;> cases r.l1 == b <;> rfl
def y1 (s : List Int) (c : Constraint) (t : Table) : Bool := (t.Kind == 0) && ((t.aX.l.length == 2) && ((t.aX.l.getD 0 0 == t.aX.l.getD 1 0) && ((t.c2 == c.c2) && (fO s (t.aX.l.getD 0 0) == c.qz))))
def wH (s : List Int) (ts : List Table) (c : Constraint) : Bool := (c.Row.cY.l.length == 0) && ((c.Row.l1 == 0) && ts.any (y1 s c))
theorem alb {l : List Int} (h : l.length = 2) : ∃ a b, l = [a, b] := by
 match l, h with
 | [a, b], _ => exact ⟨a, b, rfl⟩
theorem EP {α : Type} (x : ak α) (n : Nat) : ((x.len : Int) == (n : Int)) = (x.l.length == n) := by
 rw [dF]
 cases h : x.l.length == n with
 | true => have : x.l.length = n := by simpa using h
           rw [this]; simp
 | false => have : x.l.length ≠ n := by simpa using h
            simp; omega
theorem XD {s : ak Int} (c : Constraint) (t : Table) (hc : jT s.l.length t.aX.l = true) :
  (((bif (t.Kind == 0) then (bif (t.aX.len == 2) then ((aR t.aX.l 0).bind fun yh => ((aR t.aX.l 1).bind fun mr => (bif (yh == mr) then (bif (t.c2 == c.c2) then ((aR t.aX.l 0).bind fun De => ((aR s.l De).bind fun hG => some (hG == c.qz))) else some false) else some false))) else some false) else some false) : Option (Bool))) = some (y1 s.l c t) := by
 unfold y1
 cases t.Kind == 0 with
 | false => rfl
 | true =>
   have : (t.aX.len == 2) = (t.aX.l.length == 2) := EP t.aX 2
   rw [this]
   cases h2 : t.aX.l.length == 2 with
   | false => rfl
   | true =>
     obtain ⟨a, b, e⟩ := alb (by simpa using h2)
     have hi := (Bg hc).2
     rw [e] at hi ⊢
     have ao := hi a (by simp)
     have i0 : aR [a, b] 0 = some a := c5 [a, b] 0
     have i1 : aR [a, b] 1 = some b := c5 [a, b] 1
     simp only [i0, i1, aW, yY ao.1 ao.2, cond_true, dt]
     simp only [List.getD_cons_zero, List.getD_cons_succ]
     cases a == b with
     | false => rfl
     | true => cases t.c2 == c.c2 <;> rfl
theorem alc (xs : ak Table) (h : bl xs.l) {f : Table -> Option Bool} {p : Table -> Bool} (ae : ∀ x ∈ xs.l, f x = some (p x)) : MM xs f = some (xs.l.any p) := EJ xs h ae
theorem ald (j : dJ) (c : Constraint) (h : bl j.Model.Tables.l) (hc : ∀ t ∈ j.Model.Tables.l, jT j.Model.aO.l.length t.aX.l = true) : Ho j c = some (wH j.Model.aO.l j.Model.Tables.l c) := by
 unfold Ho
 rw [alc j.Model.Tables h (f := fun z0 => Hn c j z0) (p := y1 j.Model.aO.l c) (fun t ht => by
  unfold Hn
  rw [XD c t (hc t ht)]; rfl)]
 have e : (c.Row.cY.len == 0) = (c.Row.cY.l.length == 0) := EP c.Row.cY 0
 rw [e]
 unfold wH
 cases c.Row.cY.l.length == 0 with
 | false => rfl
 | true => cases c.Row.l1 == 0 <;> rfl
def Ji (rs : List Range) (i : Nat) (c : Constraint) : Bool := match rs[i / 2]? with
 | some r => bif i % 2 == 0 then qI c.Row ((i / 2 : Nat) : Int) (-1) (aQ (0 - r.eN)) else qI c.Row ((i / 2 : Nat) : Int) 1 r.eO
 | none => true
def Bk (F : Int) (c : Constraint) : Bool := decide (c.mq >= 0) && decide (c.mq < F)
def u2 (s : List Int) (ts : List Table) (rs : List Range) (F : Int) (i : Nat) (c : Constraint) : Bool :=
 Bk F c && ((bif c.Kind == 0 then (c.c2 == 0) && ((c.qz == 0) && pT rs.length c.Row) else (c.Kind == 1) && wH s ts c) && (bif decide (i / 2 < rs.length) then (c.Kind == 0) && Ji rs i c else true))
def y2 (s : List Int) (ts : List Table) (rs : List Range) (F : Int) (cs : List Constraint) : Bool :=
 decide (cs.length <= 512) && (decide (2 * rs.length <= cs.length) && allI (u2 s ts rs F) cs)
theorem alf {k : Nat} (h : k < 4611686018427387904) : aQ ((k : Int).tdiv 2) = ((k / 2 : Nat) : Int) := by
 have e : ((k : Int).tdiv 2) = ((k / 2 : Nat) : Int) := by
  rw [Int.tdiv_eq_ediv_of_nonneg (by omega)]; omega
 rw [e, gf (by omega) (by omega)]
theorem alg (k : Nat) : (((k : Int).tmod 2) == 0) = (k % 2 == 0) := by
 have e : ((k : Int).tmod 2) = ((k % 2 : Nat) : Int) := by
  rw [Int.tmod_eq_emod_of_nonneg (by omega)]; omega
 rw [e]
 have : k % 2 = 0 \/ k % 2 = 1 := by omega
 rcases this with h | h <;> rw [h] <;> rfl
theorem alh (j : dJ) (h : bl j.Model.c8.l) (hr : j.strict.l.length <= 100000) (ht : bl j.Model.Tables.l) (hc : ∀ t ∈ j.Model.Tables.l, jT j.Model.aO.l.length t.aX.l = true) (hT : ∀ c ∈ j.Model.c8.l, bl c.Row.cY.l) :
  Hr j = some (y2 j.Model.aO.l j.Model.Tables.l j.strict.l j.Model.dR.len j.Model.c8.l) := by
 unfold Hr y2
 have ah : decide (j.Model.c8.len > 512) = !decide (j.Model.c8.l.length <= 512) := by rw [dF]; by_cases q : j.Model.c8.l.length <= 512 <;> simp [q] <;> omega
 have e2 : decide (j.Model.c8.len < aQ (2 * j.strict.len)) = !decide (2 * j.strict.l.length <= j.Model.c8.l.length) := by
  rw [dF, dF, gf (by omega) (by omega)]
  by_cases q : 2 * j.strict.l.length <= j.Model.c8.l.length <;> simp [q] <;> omega
 rw [ah, e2]
 cases decide (j.Model.c8.l.length <= 512) with
 | false => rfl
 | true =>
   cases decide (2 * j.strict.l.length <= j.Model.c8.l.length) with
   | false => rfl
   | true =>
     simp only [fQ, Bool.or_self, cond_false, dt]
     rw [oR (f := Df j) (fun k s => s = (k : Int)) (u2 j.Model.aO.l j.Model.Tables.l j.strict.l j.Model.dR.len) j.Model.c8.l (fun k c s hx aZ _ => by
      subst aZ
      have aH := eI hx
      have dn := fm hx
      have ai : k < 4611686018427387904 := by unfold bl at h; omega
      have ae : Df j (k : Int) = bif u2 j.Model.aO.l j.Model.Tables.l j.strict.l j.Model.dR.len k c then some (.next (aQ ((k : Int) + 1))) else some (.out (.ret ())) := by
       simp only [Df, fj aH, cond_true, c5, hx, aW, l4, Xw j c.Row (hT c dn), ald j c ht hc, alf ai, alg, ala _ _ _ _ (hT c dn)]
       unfold u2
       show _ = bif Bk _ c && _ then _ else _
       have ali : (decide (c.mq >= 0) && decide (c.mq < j.Model.dR.len)) = Bk j.Model.dR.len c := rfl
       rw [ali]
       cases Bk j.Model.dR.len c with
       | false => rfl
       | true =>
         have hd : decide (((k / 2 : Nat) : Int) < j.strict.len) = decide (k / 2 < j.strict.l.length) := by
          rw [dF]; exact decide_eq_decide.2 (by omega)
         rw [hd]
         have hlen : j.strict.len = (j.strict.l.length : Int) := rfl
         rw [hlen]
         cases q8 : c.Kind == 0 with
         | false =>
           simp only [cond_true, cond_false, dt, bne, q8, o0]
           cases hL : c.Kind == 1 with
           | false => simp
           | true =>
             cases wH j.Model.aO.l j.Model.Tables.l c with
             | false => rfl
             | true =>
               simp only [fQ, cond_false, aW, dt]
               cases bD : decide (k / 2 < j.strict.l.length) with
               | false => rfl
               | true =>
                 have OJ : k / 2 < j.strict.l.length := by simpa using bD
                 have hy : j.strict.l[k / 2]? = some j.strict.l[k / 2] := by simp [OJ]
                 simp only [cond_true, hy, aW, BC, cond_false]
                 cases k % 2 == 0 <;> simp
         | true =>
           simp only [cond_true, dt, bne, q8, fQ, cond_false]
           cases c.c2 == 0 with
           | false => simp
           | true =>
             cases c.qz == 0 with
             | false => simp
             | true =>
               cases pT (j.strict.l.length : Int) c.Row with
               | false => rfl
               | true =>
                 simp only [fQ, cond_false, aW, dt]
                 cases bD : decide (k / 2 < j.strict.l.length) with
                 | false => rfl
                 | true =>
                   have OJ : k / 2 < j.strict.l.length := by simpa using bD
                   have hy : j.strict.l[k / 2]? = some j.strict.l[k / 2] := by simp [OJ]
                   unfold Ji
                   simp only [cond_true, hy, aW]
                   cases k % 2 == 0 with
                   | true =>
                     simp only [cond_true, aW]
                     cases qI c.Row ((k / 2 : Nat) : Int) (-1) (aQ (0 - j.strict.l[k / 2].eN)) <;> rfl
                   | false =>
                     simp only [cond_false, aW]
                     cases qI c.Row ((k / 2 : Nat) : Int) 1 j.strict.l[k / 2].eO <;> rfl
      rw [ae]
      constructor
      · intro bd
        rw [bd, ep ai]
        exact ⟨_, rfl, rfl⟩
      · intro bd; rw [bd]; rfl) (fun s aZ => by subst aZ; simp only [Df, fP, cond_false]) (s := 0) rfl]
     cases allI (u2 j.Model.aO.l j.Model.Tables.l j.strict.l j.Model.dR.len) j.Model.c8.l <;> rfl
theorem XF {s : List Int} {ts : List Table} (af : ji s ts = true) (b : Bool) : (hk s ts b).length <= 2592 := by
 obtain ⟨q1, aS, bZ, cR⟩ := yZ af
 have := OH bZ b ts cR
 omega
end
end Go.Abs.U
namespace Go.Abs.U
open Go Go.Abs
noncomputable section
def u3 (s : List Int) : List Int -> Int -> List Int
 | [], _ => []
 | x :: r, k => (k % fO s x) :: u3 s r (k / fO s x)
def rV (s : List Int) : List Int -> Int -> Int
 | [], k => k
 | x :: r, k => rV s r (k / fO s x)
def y5 (s : List Int) (fk : List Int) (k : Int) : List Int := (u3 s fk.reverse k).reverse
theorem XG (s : List Int) (y : Int) : ∀ (l : List Int) (k : Int), rV s (l ++ [y]) k = rV s l k / fO s y
 | [], k => rfl
 | x :: r, k => XG s y r _
theorem XH (s : List Int) (y : Int) : ∀ (l : List Int) (k : Int), u3 s (l ++ [y]) k = u3 s l k ++ [rV s l k % fO s y]
 | [], k => rfl
 | x :: r, k => by simp only [oX, u3, rV]; rw [XH s y r]
theorem XI (s : List Int) : ∀ (l : List Int) (k : Int), (u3 s l k).length = l.length
 | [], k => rfl
 | x :: r, k => by simp only [u3, iv, XI s r]
theorem XJ {s : List Int} (hs : kA s = true) : ∀ (l : List Int) (k : Int), (∀ x ∈ l, 0 <= x /\ x < s.length) -> 0 <= k -> 0 <= rV s l k /\ rV s l k <= k
 | [], k, _, h => ⟨h, Int.le_refl _⟩
 | x :: r, k, hx, h => by
   obtain ⟨q1, aS⟩ := EK hs (hx x (by simp)).1 (hx x (by simp)).2
   have h1 : 0 <= k / fO s x := Int.ediv_nonneg h (by omega)
   have h2 : k / fO s x <= k := Int.ediv_le_self _ h
   have := XJ hs r (k / fO s x) (fun y hy => hx y (by simp [hy])) h1
   simp only [rV]; omega
theorem XK {a b : Int} (ao : 0 <= a) (hb : 1 <= b) : Al a b = some (a % b) := by
 unfold Al
 rw [if_neg (by omega), Int.tmod_eq_emod_of_nonneg ao]
theorem XL {a b : Int} (ao : 0 <= a) (hb : 1 <= b) (h : a <= 1000000) : Ak a b = some (a / b) := by
 unfold Ak
 have h1 : 0 <= a / b := Int.ediv_nonneg ao (by omega)
 have h2 : a / b <= a := Int.ediv_le_self _ ao
 rw [if_neg (by omega), Int.tdiv_eq_ediv_of_nonneg ao, gf (by omega) (by omega)]
theorem aln {n j : Nat} (hj : j < n) (v : Int) (t : List Int) : (List.replicate (n - j) 0 ++ t).set (n - 1 - j) v = List.replicate (n - (j + 1)) 0 ++ (v :: t) := by
 have e : n - j = (n - (j + 1)) + 1 := by omega
 have e2 : n - 1 - j = n - (j + 1) := by omega
 rw [e, e2, List.replicate_succ', mb, List.set_append_right _ _ (by simp)]
 simp
theorem XM {s : ak Int} {fk : ak Int} {f : (Int × Int × ak Int) -> Option (cM (Int × Int × ak Int) (ak Int))}
  (ER : ∀ (k : Int) (i : Nat) (t : ak Int) (x : Int), fk.l[i]? = some x -> 0 <= k -> k <= 1000000 -> i < t.l.length -> 1 <= fO s.l x -> f (k, (i : Int), t) = some (.next (k / fO s.l x, aQ ((i : Int) - 1), nR t (i : Int) (k % fO s.l x))))
  (mU : ∀ (k : Int) (t : ak Int), f (k, -1, t) = some (.out t)) (hs : kA s.l = true) (hc : jT s.l.length fk.l = true) {d : Int} (h0 : 0 <= d) (h1 : d <= 1000000) {z : ak Int} (aP : z.l = List.replicate fk.l.length 0) :
  ∃ o, bU f (d, (fk.l.length : Int) - 1, z) = some o /\ o.l = y5 s.l fk.l d := by
 obtain ⟨q1, aS⟩ := Bg hc
 have ot : fk.l.reverse.length = fk.l.length := List.length_reverse
 refine I8 (f := f) (fun j st => ∃ t : ak Int, st = (rV s.l (fk.l.reverse.take j) d, (fk.l.length : Int) - 1 - j, t) /\ t.l = List.replicate (fk.l.length - j) 0 ++ (u3 s.l (fk.l.reverse.take j) d).reverse) (fun o => o.l = y5 s.l fk.l d) fk.l.reverse (fun j x st hx aa => ?_) (fun st aa => ?_) ⟨z, by simp [rV], by rw [aP]; simp [u3]⟩
 · obtain ⟨t, rfl, ht⟩ := aa
   have hj := eI hx
   rw [ot] at hj
   have qJ : fk.l[fk.l.length - 1 - j]? = some x := by
    rw [List.getElem?_reverse (by omega)] at hx; exact hx
   have wI := aS x (fm qJ)
   obtain ⟨p1, p2⟩ := EK hs wI.1 wI.2
   have hb := XJ hs (fk.l.reverse.take j) d (fun y hy => aS y (List.mem_reverse.1 (Bv hy))) h0
   have asl : t.l.length = fk.l.length := by
    rw [ht, kg, vf, List.length_reverse, XI, qP, ot]; omega
   have alo : (fk.l.length : Int) - 1 - j = ((fk.l.length - 1 - j : Nat) : Int) := by omega
   have XN : fk.l.reverse.take (j + 1) = fk.l.reverse.take j ++ [x] := by rw [wY, hx]; rfl
   rw [alo]
   refine ⟨_, ER _ _ t x qJ hb.1 (by omega) (by omega) p1, nR t ((fk.l.length - 1 - j : Nat) : Int) (rV s.l (fk.l.reverse.take j) d % fO s.l x), ?_, ?_⟩
   · rw [XN, XG]
     have : aQ (((fk.l.length - 1 - j : Nat) : Int) - 1) = (fk.l.length : Int) - 1 - ((j + 1 : Nat) : Int) := by
      rw [gf (by omega) (by omega)]; omega
     rw [this]
   · show t.l.set _ _ = _
     rw [ht, JM, aln hj, XN, XH, List.reverse_append]
     rfl
 · obtain ⟨t, rfl, ht⟩ := aa
   rw [ot]
   have e : (fk.l.length : Int) - 1 - (fk.l.length : Nat) = -1 := by omega
   rw [e]
   refine ⟨t, mU _ t, ?_⟩
   rw [ht, ot, <- ot, Fi]
   simp [y5]
theorem XO (n : Nat) (h : n <= 1000000) : ∃ z, vZ 8 (0 : Int) (n : Int) = some z /\ z.l = List.replicate n 0 := by
 unfold vZ
 rw [if_pos ⟨by omega, by omega⟩]
 by_cases hn : (n : Int) = 0
 · have : n = 0 := by omega
   subst this
   exact ⟨_, rfl, rfl⟩
 · rw [if_neg hn]
   exact ⟨_, rfl, rfl⟩
def kC (s : List Int) (b : Bool) (c : Int) (t : Table) : Bool := (kB t == b) && (decide (aQ (c - t.c2) >= 0) && decide (aQ (c - t.c2) < wid s t.aX.l))
theorem XP {α : Type} {p : α -> Bool} {xs : List α} (h : ∀ x ∈ xs, p x = false) : xs.findIdx? p = none := by
 rw [List.findIdx?_eq_none_iff]; exact h
theorem OK {α : Type} {p : α -> Bool} : ∀ {xs : List α} {k : Nat} {x : α}, (∀ j y, j < k -> xs[j]? = some y -> p y = false) -> xs[k]? = some x -> p x = true -> xs.findIdx? p = some k
 | [], k, x, _, hx, _ => by cases hx
 | y :: r, 0, x, _, hx, hp => by
   simp only [pV, aA] at hx
   subst hx
   rw [PL, if_pos hp]
 | y :: r, k + 1, x, h, hx, hp => by
   have h0 := h 0 y (by omega) rfl
   rw [PL, h0, if_neg (by simp), OK (k := k) (x := x) (fun j z hj aP => h (j + 1) z (by omega) (by simpa using aP)) (by simpa using hx) hp]
   rfl
structure XQ (s : List Int) (ts : List Table) (b : Bool) (c : Int) (r : Int × ak Int × Bool) : Prop where
 no : (ji s ts = false \/ c < 0 \/ ts.findIdx? (kC s b c) = none) -> r = (0, .nil, false)
 yes : ∀ i t, ji s ts = true -> 0 <= c -> ts.findIdx? (kC s b c) = some i -> ts[i]? = some t -> r.1 = (i : Int) /\ r.2.2 = true /\ r.2.1.l = y5 s t.aX.l (aQ (c - t.c2))
theorem alp (s : ak Int) (ts : ak Table) (b : Bool) (c : Int) (h1 : bl s.l) (h2 : bl ts.l) (hc : ∀ t ∈ ts.l, bl t.aX.l) : ∃ r, Hy s ts b c = some r /\ XQ s.l ts.l b c r := by
 unfold Hy
 rw [OD s ts h1 h2 hc]
 simp only [aW]
 cases af : ji s.l ts.l with
 | false => exact ⟨_, rfl, ⟨fun _ => rfl, fun i t h => by rw [af] at h; cases h⟩⟩
 | true =>
   simp only [cond_true, aW]
   by_cases h0 : c < 0
   · have hd : decide (c < 0) = true := by simpa using h0
     rw [hd]
     exact ⟨_, rfl, ⟨fun _ => rfl, fun i t _ h => by omega⟩⟩
   · have hd : decide (c < 0) = false := by simpa using h0
     rw [hd]
     simp only [cond_false]
     obtain ⟨q1, aS, bZ, cR⟩ := yZ af
     obtain ⟨o, ah, e2⟩ := wE (f := Dj s ts b c) (fun k st => st = (k : Int) /\ ∀ j y, j < k -> ts.l[j]? = some y -> kC s.l b c y = false)
      (fun o => match o with
        | .go _ => ts.l.findIdx? (kC s.l b c) = none
        | .ret p => ∃ (i : Nat) (t : Table), ts.l.findIdx? (kC s.l b c) = some i /\ ts.l[i]? = some t /\ p.1 = (i : Int) /\ p.2.l = y5 s.l t.aX.l (aQ (c - t.c2))) ts.l (fun k t st hx aa => by
      obtain ⟨rfl, iI⟩ := aa
      have aH := eI hx
      have dn := fm hx
      have iu := y0 (cR t dn)
      have hw := wF bZ iu
      have en : (((Aw t).bind fun nU => (bif (nU == b) then (bif (decide ((aQ (c - t.c2)) < 0)) then some true else ((sP s t.aX).bind fun l3 => some (decide ((aQ (c - t.c2)) >= l3)))) else some true)) : Option Bool) = some (!kC s.l b c t) := by
       rw [Ja, OA s t.aX bZ iu]
       unfold kC
       simp only [aW]
       cases kB t == b with
       | false => rfl
       | true =>
         simp only [cond_true, dt]
         by_cases g1 : aQ (c - t.c2) < 0
         · have a : decide (aQ (c - t.c2) < 0) = true := by simpa using g1
           have a2 : decide (aQ (c - t.c2) >= 0) = false := by simp; omega
           rw [a, a2]; rfl
         · have a : decide (aQ (c - t.c2) < 0) = false := by simpa using g1
           have a2 : decide (aQ (c - t.c2) >= 0) = true := by simp; omega
           rw [a, a2]
           by_cases g2 : aQ (c - t.c2) < wid s.l t.aX.l
           · have ec : decide (aQ (c - t.c2) < wid s.l t.aX.l) = true := by simpa using g2
             have gJ : decide (aQ (c - t.c2) >= wid s.l t.aX.l) = false := by simp; omega
             rw [ec, gJ]; rfl
           · have ec : decide (aQ (c - t.c2) < wid s.l t.aX.l) = false := by simpa using g2
             have gJ : decide (aQ (c - t.c2) >= wid s.l t.aX.l) = true := by simp; omega
             rw [ec, gJ]; rfl
      have ae : Dj s ts b c (k : Int) = bif !kC s.l b c t then some (.next (aQ ((k : Int) + 1))) else ((vZ 8 0 t.aX.len).bind fun Dk => ((bU (Hw s t) ((aQ (c - t.c2)), (aQ (Dk.len - 1)), Dk) : Option ((ak Int))).bind fun MT => some (.out (.ret ((k : Int), MT))))) := by
       simp only [Dj, fj aH, cond_true, c5, hx, aW]
       rw [en]; rfl
      rw [ae]
      cases eK : kC s.l b c t with
      | false =>
        left
        refine ⟨_, rfl, ?_, fun j y hj hy => ?_⟩
        · exact ep (by omega)
        · by_cases e : j = k
          · subst e; rw [hx] at hy; cases hy; exact eK
          · exact iI j y (by omega) hy
      | true =>
        right
        simp only [fQ, cond_false]
        have y6 := eK
        unfold kC at y6
        simp only [cd, decide_eq_true_eq] at y6
        obtain ⟨e8, hC⟩ := Bg iu
        obtain ⟨z, oi, u4⟩ := XO t.aX.l.length (by omega)
        have alq : z.len = (t.aX.l.length : Int) := by rw [dF, u4, vf]
        obtain ⟨o, g1, g2⟩ := XM (s := s) (fk := t.aX) (f := Hw s t) (fun k i y7 x qJ ai xm hit dP => by
         have wI := hC x (fm qJ)
         have B2 : decide ((i : Int) >= 0) = true := by simp
         have OL : y7.l[i]? = some y7.l[i] := by simp [hit]
         simp only [Hw, B2, cond_true, c5, qJ, aW, yY wI.1 wI.2, XK ai dP, XL ai dP xm, OL]) (fun k y7 => rfl) bZ iu y6.2.1 (by omega) u4
        have alr : aQ (z.len - 1) = (t.aX.l.length : Int) - 1 := by rw [alq, gf (by omega) (by omega)]
        refine ⟨.ret ((k : Int), o), ?_, k, t, OK iI hx eK, hx, rfl, g2⟩
        have : t.aX.len = ((t.aX.l.length : Nat) : Int) := rfl
        rw [this, oi]
        simp only [aW]
        rw [alr, g1]; rfl) (fun st aa => by
      obtain ⟨rfl, iI⟩ := aa
      refine ⟨.go (), by simp only [Dj, fP, cond_false], XP fun x hx => ?_⟩
      obtain ⟨j, hj⟩ := nu.1 hx
      exact iI j x (eI hj) hj) (s := 0) ⟨rfl, fun j y hj => by omega⟩
     cases o with
     | go u =>
       refine ⟨_, by rw [ah]; rfl, ⟨fun _ => rfl, fun i t _ _ hi => ?_⟩⟩
       simp only at e2; rw [e2] at hi; cases hi
     | ret p =>
       obtain ⟨i, t, al, a2, a3, a4⟩ := e2
       refine ⟨_, by rw [ah]; rfl, ⟨fun h => ?_, fun w5 e5 _ _ hi ht => ?_⟩⟩
       · rcases h with h | h | h
         · rw [af] at h; cases h
         · omega
         · rw [al] at h; cases h
       · rw [al] at hi; cases hi; rw [a2] at ht; cases ht
         exact ⟨a3, rfl, a4⟩
end
end Go.Abs.U
namespace Go.Abs.U
open Go Go.Abs
noncomputable section
def s4 (n : Int) (xs : List Change) (k : Nat) (c : Change) : Bool := !(decide (c.Cell <= hR Change.Cell xs k)) && (!(decide (c.Cell >= n)) && (!(c.Add == 0) && nq c.Add 1000000000))
def Jk (t : Table) : Bool := (t.Kind == 2) || (t.Kind == 3)
def ON (u : jt) (t : Table) : Bool := bif Jk t then ((u.Kind == 0) || (u.Kind == 1)) && (u.Value == 0) else (u.Kind == 2) && (decide (u.Value >= t.Range.eN) && decide (u.Value <= t.Range.eO))
def ES (s : List Int) (ts : List Table) (u : jt) : Bool := bif decide (u.Cell < 0) then false else match ts.findIdx? (kC s false u.Cell) with
 | some i => match ts[i]? with
   | some t => ON u t
   | none => false
 | none => false
def s5 (s : List Int) (ts : List Table) (us : List jt) (k : Nat) (u : jt) : Bool := !(decide (u.Cell <= hR jt.Cell us k)) && ES s ts u
def y8 (s : List Int) (ts : List Table) (n : Int) (x : dM) : Bool :=
 allI (s4 n x.Delta.l) x.Delta.l && (allI (s5 s ts x.er.l) x.er.l && (decide (x.fC.l.length <= 8) && (decide (x.er.l.length <= 32) && x.fC.l.all (pT n))))
theorem OO {α : Type} {p : α -> Bool} : ∀ {xs : List α} {i : Nat}, xs.findIdx? p = some i -> ∃ x, xs[i]? = some x
 | [], i, h => by cases h
 | y :: r, i, h => by
   rw [PL] at h
   split at h
   · cases h; exact ⟨y, rfl⟩
   · obtain ⟨j, hj, rfl⟩ := cD.1 h
     obtain ⟨x, hx⟩ := OO hj
     exact ⟨x, by simpa using hx⟩
theorem alw (j : dJ) (u : jt) (h1 : bl j.Model.aO.l) (h2 : bl j.Model.Tables.l) (hc : ∀ t ∈ j.Model.Tables.l, bl t.aX.l) (af : ji j.Model.aO.l j.Model.Tables.l = true) :
  Hz j u = some (ES j.Model.aO.l j.Model.Tables.l u) := by
 obtain ⟨r, ah, iI, OP⟩ := alp j.Model.aO j.Model.Tables false u.Cell h1 h2 hc
 unfold Hz ES
 rw [ah]
 simp only [aW]
 by_cases h0 : u.Cell < 0
 · have hd : decide (u.Cell < 0) = true := by simpa using h0
   rw [hd, iI (.inr (.inl h0))]; rfl
 · have hd : decide (u.Cell < 0) = false := by simpa using h0
   rw [hd]
   simp only [cond_false]
   cases hi : j.Model.Tables.l.findIdx? (kC j.Model.aO.l false u.Cell) with
   | none => rw [iI (.inr (.inr hi))]; rfl
   | some i =>
     obtain ⟨t, ht⟩ := OO hi
     obtain ⟨al, a2, -⟩ := OP i t af (by omega) hi ht
     rw [al, a2]
     simp only [cond_true, c5, ht, aW]
     unfold ON Jk
     cases t.Kind == 2 with
     | true =>
       simp only [cond_true, aW, Bool.true_or]
       cases u.Kind == 0 with
       | true => cases u.Kind == 1 <;> rfl
       | false => rfl
     | false =>
       simp only [cond_false, aW, tj]
       cases t.Kind == 3 with
       | true =>
         simp only [cond_true]
         cases u.Kind == 0 with
         | true => cases u.Kind == 1 <;> rfl
         | false => rfl
       | false => rfl
theorem alx (xs : ak Row) (h : bl xs.l) {f : Row -> Option Bool} {p : Row -> Bool} (ae : ∀ x ∈ xs.l, f x = some (p x)) : MU xs f = some (xs.l.any p) := EJ xs h ae
theorem y9 {α : Type} (x : ak α) (n : Nat) : decide (x.len <= (n : Int)) = decide (x.l.length <= n) := decide_eq_decide.2 (by rw [dF]; omega)
theorem aly (j : dJ) (x : dM) (h1 : bl j.Model.aO.l) (h2 : bl j.Model.Tables.l) (hc : ∀ t ∈ j.Model.Tables.l, bl t.aX.l) (af : ji j.Model.aO.l j.Model.Tables.l = true)
  (kQ : bl x.Delta.l) (bm : bl x.er.l) (eZ : bl x.fC.l) (aa : ∀ r ∈ x.fC.l, bl r.cY.l) :
  HB j x = some (y8 j.Model.aO.l j.Model.Tables.l j.strict.len x) := by
 unfold HB y8
 rw [oR (f := Dm j x) (fun k s => s = (hR Change.Cell x.Delta.l k, (k : Int))) (s4 j.strict.len x.Delta.l) x.Delta.l (fun k c s hx aZ _ => by
  subst aZ
  have aH := eI hx
  have ae : Dm j x (hR Change.Cell x.Delta.l k, (k : Int)) = bif s4 j.strict.len x.Delta.l k c then some (.next (c.Cell, aQ ((k : Int) + 1))) else some (.out (.ret ())) := by
   simp only [Dm, fj aH, cond_true, c5, hx, aW, Jg c.Add 1000000000 (by omega)]
   unfold s4
   cases decide (c.Cell <= hR Change.Cell x.Delta.l k) with
   | true => rfl
   | false =>
     cases decide (c.Cell >= j.strict.len) with
     | true => rfl
     | false =>
       cases c.Add == 0 with
       | true => rfl
       | false => cases nq c.Add 1000000000 <;> rfl
  rw [ae]
  constructor
  · intro bd
    rw [bd, ep (by unfold bl at kQ; omega)]
    exact ⟨_, rfl, by rw [yX Change.Cell hx]⟩
  · intro bd; rw [bd]; rfl) (fun s aZ => by subst aZ; simp only [Dm, fP, cond_false]) (s := (-1, 0)) rfl]
 cases allI (s4 j.strict.len x.Delta.l) x.Delta.l with
 | false => rfl
 | true =>
   simp only [cond_true, aW, dt]
   rw [oR (f := Dn j x) (fun k s => s = (hR jt.Cell x.er.l k, (k : Int))) (s5 j.Model.aO.l j.Model.Tables.l x.er.l) x.er.l (fun k c s hx aZ _ => by
    subst aZ
    have aH := eI hx
    have ae : Dn j x (hR jt.Cell x.er.l k, (k : Int)) = bif s5 j.Model.aO.l j.Model.Tables.l x.er.l k c then some (.next (c.Cell, aQ ((k : Int) + 1))) else some (.out (.ret ())) := by
     simp only [Dn, fj aH, cond_true, c5, hx, aW, alw j c h1 h2 hc af]
     unfold s5
     cases decide (c.Cell <= hR jt.Cell x.er.l k) with
     | true => rfl
     | false => cases ES j.Model.aO.l j.Model.Tables.l c <;> rfl
    rw [ae]
    constructor
    · intro bd
      rw [bd, ep (by unfold bl at bm; omega)]
      exact ⟨_, rfl, by rw [yX jt.Cell hx]⟩
    · intro bd; rw [bd]; rfl) (fun s aZ => by subst aZ; simp only [Dn, fP, cond_false]) (s := (-1, 0)) rfl]
   cases allI (s5 j.Model.aO.l j.Model.Tables.l x.er.l) x.er.l with
   | false => rfl
   | true =>
     simp only [cond_true, aW, dt]
     rw [alx x.fC eZ (f := fun z0 => HA j z0) (p := fun r => !pT j.strict.len r) (fun r hr => by
      unfold HA
      rw [Xw j r (aa r hr)]; rfl)]
     have ah : decide (x.fC.len <= 8) = decide (x.fC.l.length <= 8) := y9 x.fC 8
     have e2 : decide (x.er.len <= 32) = decide (x.er.l.length <= 32) := y9 x.er 32
     rw [ah, e2, nt]
     cases decide (x.fC.l.length <= 8) with
     | false => rfl
     | true => cases decide (x.er.l.length <= 32) <;> rfl
end
end Go.Abs.U
namespace Go.Abs.U
open Go Go.Abs
noncomputable section
theorem oS (a b : Int) : decide (a < b) = !decide (a >= b) := by
 by_cases q : a < b
 · rw [decide_eq_true q, decide_eq_false (by omega)]; rfl
 · rw [decide_eq_false q, decide_eq_true (by omega)]; rfl
theorem XR (a b : Int) : decide (a > b) = !decide (a <= b) := by
 by_cases q : a > b
 · rw [decide_eq_true q, decide_eq_false (by omega)]; rfl
 · rw [decide_eq_false q, decide_eq_true (by omega)]; rfl
theorem jz {α : Type} (x : ak α) (n : Nat) : decide (x.len > (n : Int)) = !decide (x.l.length <= n) := by
 rw [XR]; congr 1; exact decide_eq_decide.2 (by rw [dF]; omega)
def wJ (n : Nat) (s : Int) : Bool := decide (s >= -1) && decide (s < n)
def lL (n : Nat) (o : cG) : Bool := decide (o.aO.l.length <= 3) && o.aO.l.all (wJ n)
def wK (n : Nat) (ops : List cG) : Bool := ops.all (lL n) && (decide (ops.length <= 8) && u1 (ops.map cG.Name))
theorem alB (j : dJ) (h : j.Model.Operations.l.length <= 100000) (aJ : ∀ o ∈ j.Model.Operations.l, bl o.aO.l) : Ht j = some (wK j.Model.aO.l.length j.Model.Operations.l) := by
 unfold Ht wK
 obtain ⟨o, ah, e2⟩ := wE (f := Dh j) (fun k st => ∃ a : ak bQ, st = ((k : Int), a) /\ a.l = (j.Model.Operations.l.take k).map cG.Name /\ (j.Model.Operations.l.take k).all (lL j.Model.aO.l.length) = true)
  (fun o => match o with
    | .go a => j.Model.Operations.l.all (lL j.Model.aO.l.length) = true /\ a.l = j.Model.Operations.l.map cG.Name
    | .ret _ => j.Model.Operations.l.all (lL j.Model.aO.l.length) = false) j.Model.Operations.l (fun k o st hx aa => by
    obtain ⟨a, rfl, ao, eo⟩ := aa
    have aH := eI hx
    have dn := fm hx
    have jq : a.l.length <= 100000 := by rw [ao, n4, qP]; omega
    obtain ⟨y, lk, rO⟩ := Bi (s0 := 16) (x := a) (y := ak.mk [o.Name]) (by omega) (by show a.l.length + 1 <= _; omega)
    have mV := Oz o.aO (aJ o dn) (f := fun z0 => Hs j z0) (p := fun s => !wJ j.Model.aO.l.length s) (fun s hs => by
     unfold Hs wJ
     rw [dF, oS, show decide (s >= (j.Model.aO.l.length : Int)) = !decide (s < (j.Model.aO.l.length : Int)) from by rw [oS]; simp]
     cases decide (s >= -1) <;> cases decide (s < (j.Model.aO.l.length : Int)) <;> rfl)
    have ae : Dh j ((k : Int), a) = bif lL j.Model.aO.l.length o then some (.next ((aQ ((k : Int) + 1)), y)) else some (.out (.ret ())) := by
     simp only [Dh, fj aH, cond_true, c5, hx, aW, lk, mV]
     rw [show decide (o.aO.len > 3) = !decide (o.aO.l.length <= 3) from jz o.aO 3]
     unfold lL
     rw [nt]
     cases decide (o.aO.l.length <= 3) with
     | false => rfl
     | true => cases o.aO.l.any (fun s => !wJ j.Model.aO.l.length s) <;> rfl
    rw [ae]
    cases cV : lL j.Model.aO.l.length o with
    | true =>
      left
      refine ⟨_, rfl, y, by rw [ep (by omega)], ?_, ?_⟩
      · rw [rO, ao, wY, hx]; simp [ak.l]
      · rw [wY, hx]; simp [List.all_append, cV]; simpa using eo
    | false =>
      refine .inr ⟨.ret (), rfl, ?_⟩
      show List.all _ _ = false
      rw [List.all_eq_false]
      exact ⟨o, dn, by rw [cV]; simp⟩) (fun st aa => by
    obtain ⟨a, rfl, ao, eo⟩ := aa
    rw [Fi] at ao eo
    exact ⟨.go a, by simp only [Dh, fP, cond_false], eo, ao⟩) (s := (0, .nil)) ⟨.nil, rfl, rfl, rfl⟩
 rw [ah]
 simp only [aW]
 cases o with
 | ret u => simp only at e2; rw [e2]; rfl
 | go a =>
   obtain ⟨q1, aS⟩ := e2
   have jq : a.l.length = j.Model.Operations.l.length := by rw [aS, n4]
   simp only []
   rw [q1, Xy a (by unfold bl; omega), aS]
   simp only [aW, dt]
   rw [show decide (a.len <= 8) = decide (a.l.length <= 8) from y9 a 8, jq]
   cases decide (j.Model.Operations.l.length <= 8) <;> rfl
def lM : List Int -> List Int -> Bool
 | [], [] => false
 | [], _ :: _ => true
 | _ :: _, [] => false
 | x :: r, y :: t => bif x == y then lM r t else decide (x < y)
theorem XS (l : List Int) : lM [] l = decide (0 < l.length) := by cases l <;> simp [lM]
theorem XT (l : List Int) : lM l [] = false := by cases l <;> rfl
theorem XU {a b : List Int} {k : Nat} {x y : Int} (hx : a[k]? = some x) (hy : b[k]? = some y) : lM (a.drop k) (b.drop k) = bif x == y then lM (a.drop (k + 1)) (b.drop (k + 1)) else decide (x < y) := by
 obtain ⟨h1, ah⟩ := fy.1 hx
 obtain ⟨h2, e2⟩ := fy.1 hy
 rw [oU h1, oU h2, ah, e2]
 rfl
theorem alC (x y : Int) : Hv x y = some (if x < y then -1 else if x > y then 1 else 0) := by
 unfold Hv Hu
 simp only [bne_self_eq_false, aW, cond_false]
 by_cases h : x < y
 · simp [h]
 · by_cases h2 : x > y <;> simp [h, h2]
theorem alD (a b : ak Int) (h : bl a.l) : ∃ c, Di a b = some c /\ decide (c >= 0) = !lM a.l b.l := by
 unfold Di
 obtain ⟨o, ah, e2⟩ := wE (f := AB a b) (fun k st => st = (k : Int) /\ k <= b.l.length /\ lM a.l b.l = lM (a.l.drop k) (b.l.drop k))
  (fun o => match o with
    | .go _ => lM a.l b.l = decide (a.len < b.len)
    | .ret c => decide (c >= 0) = !lM a.l b.l) a.l (fun k x st hx aa => by
    obtain ⟨rfl, ai, ko⟩ := aa
    have aH := eI hx
    by_cases Ge : k < b.l.length
    · have hy : b.l[k]? = some b.l[k] := by simp [Ge]
      have hd : decide ((k : Int) >= b.len) = false := by rw [dF]; simp; omega
      have ae : AB a b (k : Int) = (bif ((if x < b.l[k] then -1 else if x > b.l[k] then 1 else 0 : Int) != 0) then some (.out (.ret (if x < b.l[k] then -1 else if x > b.l[k] then 1 else 0))) else some (.next (aQ ((k : Int) + 1)))) := by
       simp only [AB, fj aH, cond_true, c5, hx, aW, hd, cond_false, hy, alC]
      rw [ae]
      rw [XU hx hy] at ko
      by_cases B3 : x = b.l[k]
      · left
        have q : (x == b.l[k]) = true := by simpa using B3
        rw [q] at ko
        refine ⟨((k + 1 : Nat) : Int), ?_, rfl, by omega, ko⟩
        rw [<- B3]
        simp only [Int.lt_irrefl, if_false, gt_iff_lt]
        rw [ep (by unfold bl at h; omega)]; rfl
      · right
        have q : (x == b.l[k]) = false := by simpa using B3
        rw [q] at ko
        simp only [cond_false] at ko
        by_cases hl : x < b.l[k]
        · refine ⟨.ret (-1), by rw [if_pos hl]; rfl, ?_⟩
          show decide ((-1 : Int) >= 0) = _
          rw [ko, decide_eq_true hl]; rfl
        · have bt : x > b.l[k] := by omega
          refine ⟨.ret 1, by rw [if_neg hl, if_pos bt]; rfl, ?_⟩
          show decide ((1 : Int) >= 0) = _
          rw [ko, decide_eq_false hl]; rfl
    · right
      have hd : decide ((k : Int) >= b.len) = true := by rw [dF]; simp; omega
      refine ⟨.ret 1, by simp only [AB, fj aH, cond_true, c5, hx, aW, hd], ?_⟩
      show decide ((1 : Int) >= 0) = _
      rw [ko, td (Nat.le_of_not_lt Ge), XT]; rfl) (fun st aa => by
    obtain ⟨rfl, ai, ko⟩ := aa
    refine ⟨.go (), by simp only [AB, fP, cond_false], ?_⟩
    show _ = _
    rw [ko, td (aK _), XS, oW]
    exact decide_eq_decide.2 (by rw [dF, dF]; omega)) (s := 0) ⟨rfl, by omega, rfl⟩
 rw [ah]
 simp only [aW]
 cases o with
 | ret c => exact ⟨c, rfl, e2⟩
 | go u =>
   simp only at e2 ⊢
   rw [e2]
   cases decide (a.len < b.len) with
   | true => exact ⟨-1, rfl, rfl⟩
   | false => exact ⟨0, rfl, rfl⟩
end
end Go.Abs.U
