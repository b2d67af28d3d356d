/- Texts of this claim, joined and written short by a program. -/
import Derived.Test.YtaenhebjdjpdgaaGreatDoorP31
import Derived.Test.YtaenhebjdjpdgaaGreatDoorP30
import Derived.Test.YtaenhebjdjpdgaaGreatDoorP00
set_option linter.unusedVariables false
set_option linter.unusedSimpArgs false
namespace Go.Abs.b1
open Go Go.Abs
noncomputable section
def s4 (n : Int) (xs : List Change) (k : Nat) (c : Change) : Bool := !(decide (c.Cell <= hR Change.Cell xs k)) && (!(decide (c.Cell >= n)) && (!(c.Add == 0) && nq c.Add 1000000000))
def Jk (t : Table) : Bool := (t.Kind == 2) || (t.Kind == 3)
def ON (u : jt) (t : Table) : Bool := bif Jk t then ((u.Kind == 0) || (u.Kind == 1)) && (u.Value == 0) else (u.Kind == 2) && (decide (u.Value >= t.Range.eN) && decide (u.Value <= t.Range.eO))
def ES (s : List Int) (ts : List Table) (u : jt) : Bool := bif decide (u.Cell < 0) then false else match ts.findIdx? (kC s false u.Cell) with
 | some i => match ts[i]? with
   | some t => ON u t
   | none => false
 | none => false
def s5 (s : List Int) (ts : List Table) (us : List jt) (k : Nat) (u : jt) : Bool := !(decide (u.Cell <= hR jt.Cell us k)) && ES s ts u
def y8 (s : List Int) (ts : List Table) (n : Int) (x : dM) : Bool :=
 allI (s4 n x.Delta.l) x.Delta.l && (allI (s5 s ts x.er.l) x.er.l && (decide (x.fC.l.length <= 8) && (decide (x.er.l.length <= 32) && x.fC.l.all (pT n))))
theorem OO {α : Type} {p : α -> Bool} : ∀ {xs : List α} {i : Nat}, xs.findIdx? p = some i -> ∃ x, xs[i]? = some x
 | [], i, h => by cases h
 | y :: r, i, h => by
   rw [PL] at h
   split at h
   · cases h; exact ⟨y, rfl⟩
   · obtain ⟨j, hj, rfl⟩ := cD.1 h
     obtain ⟨x, hx⟩ := OO hj
     exact ⟨x, by simpa using hx⟩
theorem alw (j : dJ) (u : jt) (h1 : bl j.Model.aO.l) (U : bl j.Model.Tables.l) (hc : ∀ t ∈ j.Model.Tables.l, bl t.aX.l) (af : ji j.Model.aO.l j.Model.Tables.l = true) :
  Hz j u = some (ES j.Model.aO.l j.Model.Tables.l u) := by
 obtain ⟨r, ah, iI, OP⟩ := alp j.Model.aO j.Model.Tables false u.Cell h1 U hc
 unfold Hz ES
 rw [ah]
 simp only [aW]
 by_cases h0 : u.Cell < 0
 · have hd : decide (u.Cell < 0) = true := by simpa using h0
   rw [hd, iI (.inr (.inl h0))]; rfl
 · have hd : decide (u.Cell < 0) = false := by simpa using h0
   rw [hd]
   simp only [cond_false]
   cases hi : j.Model.Tables.l.findIdx? (kC j.Model.aO.l false u.Cell) with
   | none => rw [iI (.inr (.inr hi))]; rfl
   | some i =>
     obtain ⟨t, ht⟩ := OO hi
     obtain ⟨al, a2, -⟩ := OP i t af (by omega) hi ht
     rw [al, a2]
     simp only [cond_true, c5, ht, aW]
     unfold ON Jk
     cases t.Kind == 2 with
     | true =>
       simp only [cond_true, aW, Bool.true_or]
       cases u.Kind == 0 with
       | true => cases u.Kind == 1 <;> rfl
       | false => rfl
     | false =>
       simp only [cond_false, aW, tj]
       cases t.Kind == 3 with
       | true =>
         simp only [cond_true]
         cases u.Kind == 0 with
         | true => cases u.Kind == 1 <;> rfl
         | false => rfl
       | false => rfl
theorem alx (xs : ak Row) (h : bl xs.l) {f : Row -> Option Bool} {p : Row -> Bool} (ae : ∀ x ∈ xs.l, f x = some (p x)) : MU xs f = some (xs.l.any p) := EJ xs h ae
theorem y9 {α : Type} (x : ak α) (n : Nat) : decide (x.len <= (n : Int)) = decide (x.l.length <= n) := decide_eq_decide.2 (by rw [dF]; omega)
theorem aly (j : dJ) (x : dM) (h1 : bl j.Model.aO.l) (U : bl j.Model.Tables.l) (hc : ∀ t ∈ j.Model.Tables.l, bl t.aX.l) (af : ji j.Model.aO.l j.Model.Tables.l = true)
  (kQ : bl x.Delta.l) (bm : bl x.er.l) (eZ : bl x.fC.l) (aa : ∀ r ∈ x.fC.l, bl r.cY.l) :
  HB j x = some (y8 j.Model.aO.l j.Model.Tables.l j.strict.len x) := by
 unfold HB y8
 rw [oR (f := Dm j x) (fun k s => s = (hR Change.Cell x.Delta.l k, (k : Int))) (s4 j.strict.len x.Delta.l) x.Delta.l (fun k c s hx aZ _ => by
  subst aZ
  have aH := eI hx
  have ae : Dm j x (hR Change.Cell x.Delta.l k, (k : Int)) = bif s4 j.strict.len x.Delta.l k c then some (.next (c.Cell, aQ ((k : Int) + 1))) else some (.out (.ret ())) := by
   simp only [Dm, fj aH, cond_true, c5, hx, aW, Jg c.Add 1000000000 (by omega)]
   unfold s4
   cases decide (c.Cell <= hR Change.Cell x.Delta.l k) with
   | true => rfl
   | false =>
     cases decide (c.Cell >= j.strict.len) with
     | true => rfl
     | false =>
       cases c.Add == 0 with
       | true => rfl
       | false => cases nq c.Add 1000000000 <;> rfl
  rw [ae]
  constructor
  · intro bd
    rw [bd, ep (by unfold bl at kQ; omega)]
    exact ⟨_, rfl, by rw [yX Change.Cell hx]⟩
  · intro bd; rw [bd]; rfl) (fun s aZ => by subst aZ; simp only [Dm, fP, cond_false]) (s := (-1, 0)) rfl]
 cases allI (s4 j.strict.len x.Delta.l) x.Delta.l with
 | false => rfl
 | true =>
   simp only [cond_true, aW, dt]
   rw [oR (f := Dn j x) (fun k s => s = (hR jt.Cell x.er.l k, (k : Int))) (s5 j.Model.aO.l j.Model.Tables.l x.er.l) x.er.l (fun k c s hx aZ _ => by
    subst aZ
    have aH := eI hx
    have ae : Dn j x (hR jt.Cell x.er.l k, (k : Int)) = bif s5 j.Model.aO.l j.Model.Tables.l x.er.l k c then some (.next (c.Cell, aQ ((k : Int) + 1))) else some (.out (.ret ())) := by
     simp only [Dn, fj aH, cond_true, c5, hx, aW, alw j c h1 U hc af]
     unfold s5
     cases decide (c.Cell <= hR jt.Cell x.er.l k) with
     | true => rfl
     | false => cases ES j.Model.aO.l j.Model.Tables.l c <;> rfl
    rw [ae]
    constructor
    · intro bd
      rw [bd, ep (by unfold bl at bm; omega)]
      exact ⟨_, rfl, by rw [yX jt.Cell hx]⟩
    · intro bd; rw [bd]; rfl) (fun s aZ => by subst aZ; simp only [Dn, fP, cond_false]) (s := (-1, 0)) rfl]
   cases allI (s5 j.Model.aO.l j.Model.Tables.l x.er.l) x.er.l with
   | false => rfl
   | true =>
     simp only [cond_true, aW, dt]
     rw [alx x.fC eZ (f := fun z0 => HA j z0) (p := fun r => !pT j.strict.len r) (fun r hr => by
      unfold HA
      rw [Xw j r (aa r hr)]; rfl)]
     have ah : decide (x.fC.len <= 8) = decide (x.fC.l.length <= 8) := y9 x.fC 8
     have e2 : decide (x.er.len <= 32) = decide (x.er.l.length <= 32) := y9 x.er 32
     rw [ah, e2, nt]
     cases decide (x.fC.l.length <= 8) with
     | false => rfl
     | true => cases decide (x.er.l.length <= 32) <;> rfl
theorem alz (m : Model) (x : dM) (h1 : bl m.aO.l) (U : bl m.Tables.l) (hc : ∀ t ∈ m.Tables.l, bl t.aX.l) (gT : ∀ t ∈ m.Tables.l, mu t.Name = some (jU t.Name)) (af : ji m.aO.l m.Tables.l = true)
  (kQ : bl x.Delta.l) (bm : bl x.er.l) (eZ : bl x.fC.l) (aa : ∀ r ∈ x.fC.l, bl r.cY.l) :
  HU m x = some (y8 m.aO.l m.Tables.l (hk m.aO.l m.Tables.l true).length x) := by
 obtain ⟨y, lk, el⟩ := XE m h1 U hc gT af
 unfold HU y8
 rw [lk]
 simp only [aW]
 rw [<- el]
 have hn : y.len = (y.l.length : Int) := rfl
 rw [oR (f := DR x y) (fun k s => s = (k : Int)) (s4 y.l.length x.Delta.l) x.Delta.l (fun k c s hx aZ hp => by
  subst aZ
  have aH := eI hx
  have ix : -1 <= hR Change.Cell x.Delta.l k := I9 fun j z hj aP => by
   have := hp j z hj aP
   unfold s4 at this
   simp only [cd, pZ, decide_eq_false_iff_not] at this
   omega
  have ae : DR x y (k : Int) = bif s4 y.l.length x.Delta.l k c then some (.next (aQ ((k : Int) + 1))) else some (.out (.ret ())) := by
   simp only [DR, fj aH, cond_true, c5, hx, aW, Jh c.Add 1000000000 (by omega), hn]
   unfold s4
   by_cases h0 : c.Cell < 0
   · have : decide (c.Cell <= hR Change.Cell x.Delta.l k) = true := by simp; omega
     simp [h0, this]
   · have fx : decide (c.Cell < 0) = false := by simpa using h0
     rw [fx]
     by_cases h1 : c.Cell >= (y.l.length : Int)
     · have q1 : decide (c.Cell >= (y.l.length : Int)) = true := by simpa using h1
       rw [q1]
       simp
     · have q1 : decide (c.Cell >= (y.l.length : Int)) = false := by simpa using h1
       rw [q1]
       simp only [cond_false]
       cases k with
       | zero =>
         have : decide (c.Cell <= hR Change.Cell x.Delta.l 0) = false := by rw [decide_eq_false_iff_not]; show ¬ (c.Cell <= -1); omega
         rw [this]
         simp only [show decide (((0 : Nat) : Int) > 0) = false from rfl, cond_false]
         cases c.Add == 0 with
         | true => rfl
         | false => cases nq c.Add 1000000000 <;> rfl
       | succ k =>
         have ai : k < x.Delta.l.length := by omega
         have aP : x.Delta.l[k]? = some x.Delta.l[k] := by simp [ai]
         have rU : decide ((((k + 1 : Nat)) : Int) > 0) = true := decide_eq_true (by omega)
         have hw : aQ (((k + 1 : Nat) : Int) - 1) = (k : Int) := Bj (by unfold bl at kQ; omega)
         rw [rU, hw, yX Change.Cell aP]
         simp only [cond_true, c5, aP, aW]
         have : decide (x.Delta.l[k].Cell >= c.Cell) = decide (c.Cell <= x.Delta.l[k].Cell) := rfl
         rw [this]
         cases decide (c.Cell <= x.Delta.l[k].Cell) with
         | true => rfl
         | false =>
           cases c.Add == 0 with
           | true => rfl
           | false => cases nq c.Add 1000000000 <;> rfl
  rw [ae]
  constructor
  · intro bd
    rw [bd, ep (by unfold bl at kQ; omega)]
    exact ⟨_, rfl, rfl⟩
  · intro bd; rw [bd]; rfl) (fun s aZ => by subst aZ; simp only [DR, fP, cond_false]) (s := 0) rfl]
 cases allI (s4 y.l.length x.Delta.l) x.Delta.l with
 | false => rfl
 | true =>
   simp only [cond_true, aW, dt]
   rw [mA (f := HS x y) x.fC.l eZ (fun r => !pT y.l.length r) (fun k r hr => by
    simp only [HS, fj (eI hr), cond_true, c5, hr, aW, hn, Xx r (y.l.length : Int) (aa r (fm hr))]
    cases pT (y.l.length : Int) r <;> rfl) (by simp only [HS, fP, cond_false])]
   rw [nt]
   cases hA : x.fC.l.any (fun r => !pT (y.l.length : Int) r) with
   | true => simp
   | false =>
     simp only [cond_false, aW, o0, vk]
     rw [oR (f := DS m x) (fun k s => s = (k : Int)) (s5 m.aO.l m.Tables.l x.er.l) x.er.l (fun k u s hx aZ hp => by
      subst aZ
      have aH := eI hx
      have ix : -1 <= hR jt.Cell x.er.l k := I9 fun j z hj aP => by
       have := hp j z hj aP
       unfold s5 at this
       simp only [cd, pZ, decide_eq_false_iff_not] at this
       omega
      obtain ⟨r, ah, iI, OP⟩ := alu m.aO m.Tables false u.Cell h1 U hc gT
      have ae : DS m x (k : Int) = bif s5 m.aO.l m.Tables.l x.er.l k u then some (.next (aQ ((k : Int) + 1))) else some (.out (.ret ())) := by
       simp only [DS, fj aH, cond_true, c5, hx, aW, ah]
       unfold s5 ES
       by_cases h0 : u.Cell < 0
       · have hd : decide (u.Cell < 0) = true := by simpa using h0
         rw [hd, iI (.inr (.inl h0))]
         simp
       · have hd : decide (u.Cell < 0) = false := by simpa using h0
         rw [hd]
         simp only [cond_false]
         cases hi : m.Tables.l.findIdx? (kC m.aO.l false u.Cell) with
         | none => rw [iI (.inr (.inr hi))]; simp
         | some i =>
           obtain ⟨t, ht⟩ := OO hi
           obtain ⟨al, a2, -⟩ := OP i t af (by omega) hi ht
           have alA : (bif (decide ((k : Int) > 0)) then ((aR x.er.l (aQ ((k : Int) - 1))).bind fun Ds => some (decide (Ds.Cell >= u.Cell))) else some false : Option Bool) = some (decide (u.Cell <= hR jt.Cell x.er.l k)) := by
            cases k with
            | zero =>
              have : decide (u.Cell <= hR jt.Cell x.er.l 0) = false := by rw [decide_eq_false_iff_not]; show ¬ (u.Cell <= -1); omega
              rw [this]; rfl
            | succ k =>
              have ai : k < x.er.l.length := by omega
              have aP : x.er.l[k]? = some x.er.l[k] := by simp [ai]
              have rU : decide ((((k + 1 : Nat)) : Int) > 0) = true := decide_eq_true (by omega)
              have hw : aQ (((k + 1 : Nat) : Int) - 1) = (k : Int) := Bj (by unfold bl at bm; omega)
              rw [rU, hw, yX jt.Cell aP]
              simp only [cond_true, c5, aP, aW]
           rw [al, a2]
           simp only [cond_true]
           rw [alA]
           simp only [aW, c5, ht]
           cases decide (u.Cell <= hR jt.Cell x.er.l k) with
           | true => rfl
           | false =>
             have sB : HR t.Kind = some (Jk t) := rfl
             simp only [cond_false, sB, aW, o0, dt]
             unfold ON
             cases Jk t with
             | true =>
               simp only [cond_true, bne]
               cases u.Kind == 0 <;> cases u.Kind == 1 <;> cases u.Value == 0 <;> rfl
             | false =>
               simp only [cond_false, bne, aW]
               cases u.Kind == 2 with
               | false => rfl
               | true =>
                 have ec : decide (u.Value < t.Range.eN) = !decide (u.Value >= t.Range.eN) := by by_cases q : u.Value < t.Range.eN <;> simp [q] <;> omega
                 have gJ : decide (u.Value > t.Range.eO) = !decide (u.Value <= t.Range.eO) := by by_cases q : u.Value <= t.Range.eO <;> simp [q] <;> omega
                 rw [ec, gJ]
                 cases decide (u.Value >= t.Range.eN) <;> cases decide (u.Value <= t.Range.eO) <;> rfl
      rw [ae]
      constructor
      · intro bd
        rw [bd, ep (by unfold bl at bm; omega)]
        exact ⟨_, rfl, rfl⟩
      · intro bd; rw [bd]; rfl) (fun s aZ => by subst aZ; simp only [DS, fP, cond_false]) (s := 0) rfl]
     have ah : decide (x.fC.len <= 8) = decide (x.fC.l.length <= 8) := y9 x.fC 8
     have e2 : decide (x.er.len <= 32) = decide (x.er.l.length <= 32) := y9 x.er 32
     rw [ah, e2]
     cases allI (s5 m.aO.l m.Tables.l x.er.l) x.er.l <;> rfl
end
end Go.Abs.b1
namespace Go.Abs.b1
open Go Go.Abs
noncomputable section
theorem oS (a b : Int) : decide (a < b) = !decide (a >= b) := by
 by_cases q : a < b
 · rw [decide_eq_true q, decide_eq_false (by omega)]; rfl
 · rw [decide_eq_false q, decide_eq_true (by omega)]; rfl
theorem XR (a b : Int) : decide (a > b) = !decide (a <= b) := by
 by_cases q : a > b
 · rw [decide_eq_true q, decide_eq_false (by omega)]; rfl
 · rw [decide_eq_false q, decide_eq_true (by omega)]; rfl
theorem jz {α : Type} (x : ak α) (n : Nat) : decide (x.len > (n : Int)) = !decide (x.l.length <= n) := by
 rw [XR]; congr 1; exact decide_eq_decide.2 (by rw [dF]; omega)
def wJ (n : Nat) (s : Int) : Bool := decide (s >= -1) && decide (s < n)
def lL (n : Nat) (o : cG) : Bool := decide (o.aO.l.length <= 3) && o.aO.l.all (wJ n)
def wK (n : Nat) (ops : List cG) : Bool := ops.all (lL n) && (decide (ops.length <= 8) && u1 (ops.map cG.Name))
theorem alB (j : dJ) (h : j.Model.Operations.l.length <= 100000) (aJ : ∀ o ∈ j.Model.Operations.l, bl o.aO.l) : Ht j = some (wK j.Model.aO.l.length j.Model.Operations.l) := by
 unfold Ht wK
 obtain ⟨o, ah, e2⟩ := wE (f := Dh j) (fun k st => ∃ a : ak bQ, st = ((k : Int), a) /\ a.l = (j.Model.Operations.l.take k).map cG.Name /\ (j.Model.Operations.l.take k).all (lL j.Model.aO.l.length) = true)
  (fun o => match o with
    | .go a => j.Model.Operations.l.all (lL j.Model.aO.l.length) = true /\ a.l = j.Model.Operations.l.map cG.Name
    | .ret _ => j.Model.Operations.l.all (lL j.Model.aO.l.length) = false) j.Model.Operations.l (fun k o st hx aa => by
    obtain ⟨a, rfl, ao, eo⟩ := aa
    have aH := eI hx
    have dn := fm hx
    have jq : a.l.length <= 100000 := by rw [ao, n4, qP]; omega
    obtain ⟨y, lk, rO⟩ := Bi (s0 := 16) (x := a) (y := ak.mk [o.Name]) (by omega) (by show a.l.length + 1 <= _; omega)
    have mV := Oz o.aO (aJ o dn) (f := fun z0 => Hs j z0) (p := fun s => !wJ j.Model.aO.l.length s) (fun s hs => by
     unfold Hs wJ
     rw [dF, oS, show decide (s >= (j.Model.aO.l.length : Int)) = !decide (s < (j.Model.aO.l.length : Int)) from by rw [oS]; simp]
     cases decide (s >= -1) <;> cases decide (s < (j.Model.aO.l.length : Int)) <;> rfl)
    have ae : Dh j ((k : Int), a) = bif lL j.Model.aO.l.length o then some (.next ((aQ ((k : Int) + 1)), y)) else some (.out (.ret ())) := by
     simp only [Dh, fj aH, cond_true, c5, hx, aW, lk, mV]
     rw [show decide (o.aO.len > 3) = !decide (o.aO.l.length <= 3) from jz o.aO 3]
     unfold lL
     rw [nt]
     cases decide (o.aO.l.length <= 3) with
     | false => rfl
     | true => cases o.aO.l.any (fun s => !wJ j.Model.aO.l.length s) <;> rfl
    rw [ae]
    cases cV : lL j.Model.aO.l.length o with
    | true =>
      left
      refine ⟨_, rfl, y, by rw [ep (by omega)], ?_, ?_⟩
      · rw [rO, ao, wY, hx]; simp [ak.l]
      · rw [wY, hx]; simp [List.all_append, cV]; simpa using eo
    | false =>
      refine .inr ⟨.ret (), rfl, ?_⟩
      show List.all _ _ = false
      rw [List.all_eq_false]
      exact ⟨o, dn, by rw [cV]; simp⟩) (fun st aa => by
    obtain ⟨a, rfl, ao, eo⟩ := aa
    rw [Fi] at ao eo
    exact ⟨.go a, by simp only [Dh, fP, cond_false], eo, ao⟩) (s := (0, .nil)) ⟨.nil, rfl, rfl, rfl⟩
 rw [ah]
 simp only [aW]
 cases o with
 | ret u => simp only at e2; rw [e2]; rfl
 | go a =>
   obtain ⟨q1, aS⟩ := e2
   have jq : a.l.length = j.Model.Operations.l.length := by rw [aS, n4]
   simp only []
   rw [q1, Xy a (by unfold bl; omega), aS]
   simp only [aW, dt]
   rw [show decide (a.len <= 8) = decide (a.l.length <= 8) from y9 a 8, jq]
   cases decide (j.Model.Operations.l.length <= 8) <;> rfl
def lM : List Int -> List Int -> Bool
 | [], [] => false
 | [], _ :: _ => true
 | _ :: _, [] => false
 | x :: r, y :: t => bif x == y then lM r t else decide (x < y)
theorem XS (l : List Int) : lM [] l = decide (0 < l.length) := by cases l <;> simp [lM]
theorem XT (l : List Int) : lM l [] = false := by cases l <;> rfl
theorem XU {a b : List Int} {k : Nat} {x y : Int} (hx : a[k]? = some x) (hy : b[k]? = some y) : lM (a.drop k) (b.drop k) = bif x == y then lM (a.drop (k + 1)) (b.drop (k + 1)) else decide (x < y) := by
 obtain ⟨h1, ah⟩ := fy.1 hx
 obtain ⟨U, e2⟩ := fy.1 hy
 rw [oU h1, oU U, ah, e2]
 rfl
theorem alC (x y : Int) : Hv x y = some (if x < y then -1 else if x > y then 1 else 0) := by
 unfold Hv Hu
 simp only [bne_self_eq_false, aW, cond_false]
 by_cases h : x < y
 · simp [h]
 · by_cases U : x > y <;> simp [h, U]
theorem alD (a b : ak Int) (h : bl a.l) : ∃ c, Di a b = some c /\ decide (c >= 0) = !lM a.l b.l := by
 unfold Di
 obtain ⟨o, ah, e2⟩ := wE (f := AB a b) (fun k st => st = (k : Int) /\ k <= b.l.length /\ lM a.l b.l = lM (a.l.drop k) (b.l.drop k))
  (fun o => match o with
    | .go _ => lM a.l b.l = decide (a.len < b.len)
    | .ret c => decide (c >= 0) = !lM a.l b.l) a.l (fun k x st hx aa => by
    obtain ⟨rfl, ai, ko⟩ := aa
    have aH := eI hx
    by_cases Ge : k < b.l.length
    · have hy : b.l[k]? = some b.l[k] := by simp [Ge]
      have hd : decide ((k : Int) >= b.len) = false := by rw [dF]; simp; omega
      have ae : AB a b (k : Int) = (bif ((if x < b.l[k] then -1 else if x > b.l[k] then 1 else 0 : Int) != 0) then some (.out (.ret (if x < b.l[k] then -1 else if x > b.l[k] then 1 else 0))) else some (.next (aQ ((k : Int) + 1)))) := by
       simp only [AB, fj aH, cond_true, c5, hx, aW, hd, cond_false, hy, alC]
      rw [ae]
      rw [XU hx hy] at ko
      by_cases B3 : x = b.l[k]
      · left
        have q : (x == b.l[k]) = true := by simpa using B3
        rw [q] at ko
        refine ⟨((k + 1 : Nat) : Int), ?_, rfl, by omega, ko⟩
        rw [<- B3]
        simp only [Int.lt_irrefl, if_false, gt_iff_lt]
        rw [ep (by unfold bl at h; omega)]; rfl
      · right
        have q : (x == b.l[k]) = false := by simpa using B3
        rw [q] at ko
        simp only [cond_false] at ko
        by_cases hl : x < b.l[k]
        · refine ⟨.ret (-1), by rw [if_pos hl]; rfl, ?_⟩
          show decide ((-1 : Int) >= 0) = _
          rw [ko, decide_eq_true hl]; rfl
        · have bt : x > b.l[k] := by omega
          refine ⟨.ret 1, by rw [if_neg hl, if_pos bt]; rfl, ?_⟩
          show decide ((1 : Int) >= 0) = _
          rw [ko, decide_eq_false hl]; rfl
    · right
      have hd : decide ((k : Int) >= b.len) = true := by rw [dF]; simp; omega
      refine ⟨.ret 1, by simp only [AB, fj aH, cond_true, c5, hx, aW, hd], ?_⟩
      show decide ((1 : Int) >= 0) = _
      rw [ko, td (Nat.le_of_not_lt Ge), XT]; rfl) (fun st aa => by
    obtain ⟨rfl, ai, ko⟩ := aa
    refine ⟨.go (), by simp only [AB, fP, cond_false], ?_⟩
    show _ = _
    rw [ko, td (aK _), XS, oW]
    exact decide_eq_decide.2 (by rw [dF, dF]; omega)) (s := 0) ⟨rfl, by omega, rfl⟩
 rw [ah]
 simp only [aW]
 cases o with
 | ret c => exact ⟨c, rfl, e2⟩
 | go u =>
   simp only at e2 ⊢
   rw [e2]
   cases decide (a.len < b.len) with
   | true => exact ⟨-1, rfl, rfl⟩
   | false => exact ⟨0, rfl, rfl⟩
theorem alE (a b : ak Int) (h : bl a.l) : DO a b = some (lM a.l b.l) := by
 unfold DO
 have qW : (a.l.zip b.l).length = min a.l.length b.l.length := List.length_zip
 obtain ⟨o, ah, e2⟩ := wE (f := DN a b) (fun k st => st = (k : Int) /\ lM a.l b.l = lM (a.l.drop k) (b.l.drop k))
  (fun o => match o with
    | .go _ => lM a.l b.l = decide (a.len < b.len)
    | .ret c => c = lM a.l b.l) (a.l.zip b.l) (fun k p st hx aa => by
    obtain ⟨rfl, ko⟩ := aa
    have aH := eI hx
    rw [qW] at aH
    obtain ⟨A4, XV⟩ := zl.1 hx
    have d1 : decide ((k : Int) < a.len) = true := fj (by omega)
    have d2 : decide ((k : Int) < b.len) = true := fj (by omega)
    rw [XU A4 XV] at ko
    have ae : DN a b (k : Int) = bif p.1 == p.2 then some (.next (aQ ((k : Int) + 1))) else some (.out (.ret (decide (p.1 < p.2)))) := by
     simp only [DN, d1, d2, zq, cond_true, c5, A4, XV, aW, bne]
     cases p.1 == p.2 <;> rfl
    rw [ae]
    cases q : p.1 == p.2 with
    | true =>
      rw [q] at ko
      exact .inl ⟨_, rfl, ep (by unfold bl at h; omega), ko⟩
    | false =>
      rw [q] at ko
      exact .inr ⟨.ret (decide (p.1 < p.2)), rfl, ko.symm⟩) (fun st aa => by
    obtain ⟨rfl, ko⟩ := aa
    rw [qW] at ko ⊢
    have hd : (decide (((min a.l.length b.l.length : Nat) : Int) < a.len) && decide (((min a.l.length b.l.length : Nat) : Int) < b.len)) = false := by
     rw [dF, dF]
     rcases Nat.le_total a.l.length b.l.length with q | q
     · rw [nv q]; simp
     · rw [ti q]; simp
    refine ⟨.go (), by simp only [DN, hd, cond_false], ?_⟩
    show _ = _
    rw [ko]
    rcases Nat.le_total a.l.length b.l.length with q | q
    · rw [nv q, td (aK _), XS, oW]
      exact decide_eq_decide.2 (by rw [dF, dF]; omega)
    · rw [ti q, (td (aK _) : b.l.drop b.l.length = []), XT]
      exact (decide_eq_false (by rw [dF, dF]; omega)).symm) (s := 0) ⟨rfl, rfl⟩
 rw [ah]
 simp only [aW]
 cases o with
 | ret c => simp only at e2; rw [e2]
 | go u => simp only at e2; rw [e2]
end
end Go.Abs.b1
namespace Go.Abs.b1
open Go Go.Abs
noncomputable section
def s6 (s : List Int) (args : List Int) (k : Nat) (hS : Int) : Bool := bif decide (hS < 0) then nq (args.getD k 0) 9999 else decide (args.getD k 0 >= 0) && decide (args.getD k 0 < fO s hS)
def za (s7 : List Action) (k : Nat) (a : Action) : Bool := match k with
 | 0 => true
 | k + 1 => match s7[k]? with
   | some b => !(decide (b.cG > a.cG)) && (bif b.cG == a.cG then lM b.dz.l a.dz.l else true)
   | none => true
def u5 (s : List Int) (ts : List Table) (n : Int) (ops : List cG) (s7 : List Action) (k : Nat) (a : Action) : Bool :=
 (decide (a.cG >= 0) && decide (a.cG < ops.length)) && match ops[a.cG.toNat]? with
   | some o => (a.dz.l.length == o.aO.l.length) && (allI (s6 s a.dz.l) o.aO.l && (za s7 k a && y8 s ts n a.dM))
   | none => false
def zb (s : List Int) (ts : List Table) (n : Int) (ops : List cG) (s7 : List Action) : Bool := decide (s7.length <= 256) && allI (u5 s ts n ops s7) s7
structure OQ (x : dM) : Prop where
 d : bl x.Delta.l
 u : bl x.er.l
 h : bl x.fC.l
 r : ∀ r ∈ x.fC.l, bl r.cY.l
theorem XW {α β : Type} (x : ak α) (y : ak β) : (x.len != y.len) = !(x.l.length == y.l.length) := by
 unfold bne
 congr 1
 rw [dF, dF, BA]
 simp; omega
theorem u6 {α : Type} {l : List α} {i : Int} (h : 0 <= i) : aR l i = l[i.toNat]? := by simp [aR, h]
theorem XX {s : List Int} {o : cG} {a : Action} {f : Int -> Option (cM Int (bK Unit Unit))} (hl : bl o.aO.l)
  (ae : ∀ (k : Nat) (hS : Int), o.aO.l[k]? = some hS -> f (k : Int) = bif s6 s a.dz.l k hS then some (.next (aQ ((k : Int) + 1))) else some (.out (.ret ()))) (he : f (o.aO.l.length : Int) = some (.out (.go ()))) :
  bU f 0 = some (bif allI (s6 s a.dz.l) o.aO.l then .go () else .ret ()) :=
 oR (f := f) (fun k s => s = (k : Int)) (s6 s a.dz.l) o.aO.l (fun k hS st hx aZ _ => by
  subst aZ
  rw [ae k hS hx]
  constructor
  · intro bd
    rw [bd, ep (by have := eI hx; unfold bl at hl; omega)]
    exact ⟨_, rfl, rfl⟩
  · intro bd; rw [bd]; rfl) (fun st aZ => by subst aZ; exact he) (s := 0) rfl
theorem Bl {l : List Int} {k : Nat} {x : Int} (h : l[k]? = some x) : l.getD k 0 = x := by simp [Bu, h]
theorem XY {n : Nat} {o : cG} (h : lL n o = true) {hS : Int} (hs : hS ∈ o.aO.l) : -1 <= hS /\ hS < n := by
 unfold lL at h
 simp only [cd, fo] at h
 have := h.2 hS hs
 unfold wJ at this
 simp only [cd, decide_eq_true_eq] at this
 exact ⟨by omega, this.2⟩
theorem alF {j : dJ} {o : cG} {a : Action} (ho : lL j.Model.aO.l.length o = true) (hl : bl o.aO.l) (hlen : a.dz.l.length = o.aO.l.length) :
  bU (HC j a o) 0 = some (bif allI (s6 j.Model.aO.l a.dz.l) o.aO.l then .go () else .ret ()) :=
 XX hl (fun k hS hx => by
  have aH := eI hx
  have hy : a.dz.l[k]? = some a.dz.l[k] := by simp [hlen, aH]
  obtain ⟨q1, aS⟩ := XY ho (fm hx)
  simp only [HC, fj aH, cond_true, c5, hx, hy, aW, Jg _ 9999 (by omega), l4]
  unfold s6
  rw [Bl hy]
  by_cases h0 : hS < 0
  · have d0 : decide (hS < 0) = true := by simpa using h0
    have d1 : decide (hS >= 0) = false := by simp; omega
    rw [d0, d1]
    simp only [cond_true, cond_false]
    cases nq a.dz.l[k] 9999 <;> rfl
  · have d0 : decide (hS < 0) = false := by simpa using h0
    have d1 : decide (hS >= 0) = true := by simp; omega
    rw [d0, d1, yY (by omega) aS]
    simp only [cond_true, cond_false, aW]
    cases (decide (a.dz.l[k] >= 0) && decide (a.dz.l[k] < fO j.Model.aO.l hS)) <;> rfl) (by simp only [HC, fP, cond_false])
theorem alG {m : Model} {o : cG} {a : Action} (ho : lL m.aO.l.length o = true) (hl : bl o.aO.l) (hlen : a.dz.l.length = o.aO.l.length) (h0 : 0 <= a.cG) (cV : m.Operations.l[a.cG.toNat]? = some o) :
  bU (HW m a) 0 = some (bif allI (s6 m.aO.l a.dz.l) o.aO.l then .go () else .ret ()) :=
 XX hl (fun k hS hx => by
  have aH := eI hx
  have hy : a.dz.l[k]? = some a.dz.l[k] := by simp [hlen, aH]
  obtain ⟨q1, aS⟩ := XY ho (fm hx)
  have hd : decide ((k : Int) < a.dz.len) = true := fj (by omega)
  simp only [HW, hd, cond_true, u6 h0, cV, c5, hx, hy, aW, Jh _ 9999 (by omega)]
  unfold s6
  rw [Bl hy]
  by_cases h0 : hS < 0
  · have d0 : decide (hS < 0) = true := by simpa using h0
    have d1 : decide (hS >= 0) = false := by simp; omega
    rw [d0, d1]
    simp only [cond_true, cond_false]
    cases nq a.dz.l[k] 9999 <;> rfl
  · have d0 : decide (hS < 0) = false := by simpa using h0
    have d1 : decide (hS >= 0) = true := by simp; omega
    rw [d0, d1, yY (by omega) aS]
    simp only [cond_true, cond_false, aW]
    rw [oS, show decide (a.dz.l[k] >= fO m.aO.l hS) = !decide (a.dz.l[k] < fO m.aO.l hS) from by rw [oS]; simp]
    cases decide (a.dz.l[k] >= 0) <;> cases decide (a.dz.l[k] < fO m.aO.l hS) <;> rfl) (by
  have hd : decide ((o.aO.l.length : Int) < a.dz.len) = false := by rw [<- hlen]; exact fP
  simp only [HW, hd, cond_false])
theorem alH (j : dJ) (h1 : bl j.Model.aO.l) (U : bl j.Model.Tables.l) (hc : ∀ t ∈ j.Model.Tables.l, bl t.aX.l) (af : ji j.Model.aO.l j.Model.Tables.l = true)
  (ho : ∀ o ∈ j.Model.Operations.l, lL j.Model.aO.l.length o = true) (Jl : ∀ o ∈ j.Model.Operations.l, bl o.aO.l) (dw : ∀ a ∈ j.Model.Actions.l, OQ a.dM) (hA : ∀ a ∈ j.Model.Actions.l, bl a.dz.l) (dT : bl j.Model.Actions.l) :
  HD j = some (zb j.Model.aO.l j.Model.Tables.l j.strict.len j.Model.Operations.l j.Model.Actions.l) := by
 unfold HD zb
 rw [show decide (j.Model.Actions.len > 256) = !decide (j.Model.Actions.l.length <= 256) from jz j.Model.Actions 256]
 cases decide (j.Model.Actions.l.length <= 256) with
 | false => rfl
 | true =>
   simp only [fQ, cond_false, dt]
   rw [oR (f := Dq j) (fun k s => s = (k : Int)) (u5 j.Model.aO.l j.Model.Tables.l j.strict.len j.Model.Operations.l j.Model.Actions.l) j.Model.Actions.l (fun k a st hx aZ _ => by
    subst aZ
    have aH := eI hx
    have dn := fm hx
    have ae : Dq j (k : Int) = bif u5 j.Model.aO.l j.Model.Tables.l j.strict.len j.Model.Operations.l j.Model.Actions.l k a then some (.next (aQ ((k : Int) + 1))) else some (.out (.ret ())) := by
     simp only [Dq, fj aH, cond_true, c5, hx, aW, l4]
     unfold u5
     have om : decide (a.cG < j.Model.Operations.len) = decide (a.cG < (j.Model.Operations.l.length : Int)) := rfl
     rw [om]
     cases hin : (decide (a.cG >= 0) && decide (a.cG < (j.Model.Operations.l.length : Int))) with
     | false => rfl
     | true =>
       simp only [cd, decide_eq_true_eq] at hin
       have hK : a.cG.toNat < j.Model.Operations.l.length := by omega
       have cV : j.Model.Operations.l[a.cG.toNat]? = some j.Model.Operations.l[a.cG.toNat] := by simp [hK]
       have ET := fm cV
       simp only [cond_true, u6 hin.1, cV, aW, XW, dt]
       cases hlen : a.dz.l.length == (j.Model.Operations.l[a.cG.toNat]).aO.l.length with
       | false => rfl
       | true =>
         simp only [fQ, cond_false, dt]
         rw [alF (ho _ ET) (Jl _ ET) (by simpa using hlen)]
         simp only [aW]
         cases allI (s6 j.Model.aO.l a.dz.l) (j.Model.Operations.l[a.cG.toNat]).aO.l with
         | false => rfl
         | true =>
           simp only [cond_true, dt]
           have lz := dw a dn
           rw [aly j a.dM h1 U hc af lz.d lz.u lz.h lz.r]
           have lW : ((bif (decide ((k : Int) > 0)) then ((aR j.Model.Actions.l (aQ ((k : Int) - 1))).bind fun wb => (((bif (decide (wb.cG > a.cG)) then some true else (bif (wb.cG == a.cG) then ((Di wb.dz a.dz).bind fun Dr => some (decide (Dr >= 0))) else some false)) : Option (Bool)).bind fun M0 => (bif M0 then some (.ret ()) else some (.go ())))) else some (.go ())) : Option (bK (Unit) (Unit))) = some (bif za j.Model.Actions.l k a then .go () else .ret ()) := by
            cases k with
            | zero => rfl
            | succ k =>
              have ai : k < j.Model.Actions.l.length := by omega
              have aP : j.Model.Actions.l[k]? = some j.Model.Actions.l[k] := by simp [ai]
              have rU : decide ((((k + 1 : Nat)) : Int) > 0) = true := decide_eq_true (by omega)
              have hw : aQ (((k + 1 : Nat) : Int) - 1) = (k : Int) := Bj (by unfold bl at dT; omega)
              obtain ⟨c, BQ, alI⟩ := alD j.Model.Actions.l[k].dz a.dz (hA _ (JQ ai))
              rw [rU, hw]
              unfold za
              simp only [cond_true, c5, aP, aW, BQ, alI]
              cases decide (j.Model.Actions.l[k].cG > a.cG) with
              | true => rfl
              | false =>
                cases j.Model.Actions.l[k].cG == a.cG with
                | false => rfl
                | true => cases lM j.Model.Actions.l[k].dz.l a.dz.l <;> rfl
           rw [lW]
           simp only [aW]
           cases za j.Model.Actions.l k a with
           | false => rfl
           | true => cases y8 j.Model.aO.l j.Model.Tables.l j.strict.len a.dM <;> rfl
    rw [ae]
    constructor
    · intro bd
      rw [bd, ep (by unfold bl at dT; omega)]
      exact ⟨_, rfl, rfl⟩
    · intro bd; rw [bd]; rfl) (fun st aZ => by subst aZ; simp only [Dq, fP, cond_false]) (s := 0) rfl]
   cases allI (u5 j.Model.aO.l j.Model.Tables.l j.strict.len j.Model.Operations.l j.Model.Actions.l) j.Model.Actions.l <;> rfl
theorem alJ (m : Model) (h1 : bl m.aO.l) (U : bl m.Tables.l) (hc : ∀ t ∈ m.Tables.l, bl t.aX.l) (gT : ∀ t ∈ m.Tables.l, mu t.Name = some (jU t.Name)) (af : ji m.aO.l m.Tables.l = true)
  (aD : m.Operations.l.length <= 100000) (Jl : ∀ o ∈ m.Operations.l, bl o.aO.l) (alK : ∀ o ∈ m.Operations.l, mu o.Name = some (jU o.Name)) (dw : ∀ a ∈ m.Actions.l, OQ a.dM) (hA : ∀ a ∈ m.Actions.l, bl a.dz.l) (dT : bl m.Actions.l) :
  HX m = some (wK m.aO.l.length m.Operations.l && zb m.aO.l m.Tables.l (hk m.aO.l m.Tables.l true).length m.Operations.l m.Actions.l) := by
 unfold HX wK
 obtain ⟨o, ah, e2⟩ := wE (f := DT m) (fun k st => ∃ a : ak bQ, st = ((k : Int), a) /\ a.l = (m.Operations.l.take k).map cG.Name /\ (m.Operations.l.take k).all (lL m.aO.l.length) = true)
  (fun o => match o with
    | .go a => m.Operations.l.all (lL m.aO.l.length) = true /\ a.l = m.Operations.l.map cG.Name
    | .ret _ => m.Operations.l.all (lL m.aO.l.length) = false) m.Operations.l (fun k o st hx aa => by
    obtain ⟨a, rfl, ao, eo⟩ := aa
    have aH := eI hx
    have dn := fm hx
    have jq : a.l.length <= 100000 := by rw [ao, n4, qP]; omega
    obtain ⟨y, lk, rO⟩ := Bi (s0 := 16) (x := a) (y := ak.mk [o.Name]) (by omega) (by show a.l.length + 1 <= _; omega)
    have hin := mA (f := HV m o) o.aO.l (Jl o dn) (fun s => !wJ m.aO.l.length s) (fun k s hs => by
     simp only [HV, fj (eI hs), cond_true, c5, hs, aW]
     unfold wJ
     have iz : decide (s >= m.aO.len) = !decide (s < (m.aO.l.length : Int)) := by rw [oS, dF]; simp
     rw [iz, oS]
     cases decide (s >= -1) <;> cases decide (s < (m.aO.l.length : Int)) <;> rfl) (by simp only [HV, fP, cond_false])
    have ae : DT m ((k : Int), a) = bif lL m.aO.l.length o then some (.next ((aQ ((k : Int) + 1)), y)) else some (.out (.ret ())) := by
     simp only [DT, fj aH, cond_true, c5, hx, aW, lk]
     rw [hin]
     rw [show decide (o.aO.len > 3) = !decide (o.aO.l.length <= 3) from jz o.aO 3]
     unfold lL
     rw [nt]
     cases o.aO.l.any (fun s => !wJ m.aO.l.length s) with
     | true => cases decide (o.aO.l.length <= 3) <;> rfl
     | false => cases decide (o.aO.l.length <= 3) <;> rfl
    rw [ae]
    cases cV : lL m.aO.l.length o with
    | true =>
      left
      refine ⟨_, rfl, y, by rw [ep (by omega)], ?_, ?_⟩
      · rw [rO, ao, wY, hx]; simp [ak.l]
      · rw [wY, hx]; simp [List.all_append, cV]; simpa using eo
    | false =>
      refine .inr ⟨.ret (), rfl, ?_⟩
      show List.all _ _ = false
      rw [List.all_eq_false]
      exact ⟨o, dn, by rw [cV]; simp⟩) (fun st aa => by
    obtain ⟨a, rfl, ao, eo⟩ := aa
    rw [Fi] at ao eo
    exact ⟨.go a, by simp only [DT, fP, cond_false], eo, ao⟩) (s := (0, .emp)) ⟨.emp, rfl, rfl, rfl⟩
 rw [ah]
 simp only [aW]
 cases o with
 | ret u => simp only at e2 ⊢; rw [e2]; rfl
 | go a =>
   obtain ⟨q1, aS⟩ := e2
   have jq : a.l.length = m.Operations.l.length := by rw [aS, n4]
   simp only []
   rw [q1, XA a (by unfold bl; omega) (fun x hx => by
    rw [aS] at hx
    obtain ⟨o, ho, rfl⟩ := ey.1 hx
    exact alK o ho), aS]
   rw [show decide (m.Operations.len > 8) = !decide (m.Operations.l.length <= 8) from jz m.Operations 8, show decide (m.Actions.len > 256) = !decide (m.Actions.l.length <= 256) from jz m.Actions 256]
   unfold zb
   cases decide (m.Operations.l.length <= 8) with
   | false => simp
   | true =>
     cases u1 (m.Operations.l.map cG.Name) with
     | false => simp
     | true =>
       cases decide (m.Actions.l.length <= 256) with
       | false => rfl
       | true =>
         simp only [fQ, cond_false, aW, cond_true, dt]
         have ho : ∀ o ∈ m.Operations.l, lL m.aO.l.length o = true := fo.1 q1
         rw [oR (f := DV m) (fun k s => s = (k : Int)) (u5 m.aO.l m.Tables.l (hk m.aO.l m.Tables.l true).length m.Operations.l m.Actions.l) m.Actions.l (fun k a st hx aZ _ => by
          subst aZ
          have aH := eI hx
          have dn := fm hx
          have ae : DV m (k : Int) = bif u5 m.aO.l m.Tables.l (hk m.aO.l m.Tables.l true).length m.Operations.l m.Actions.l k a then some (.next (aQ ((k : Int) + 1))) else some (.out (.ret ())) := by
           simp only [DV, fj aH, cond_true, c5, hx, aW]
           unfold u5
           have om : decide (a.cG >= m.Operations.len) = !decide (a.cG < (m.Operations.l.length : Int)) := by rw [oS, dF]; simp
           rw [om, oS]
           cases alL : decide (a.cG >= 0) with
           | false => rfl
           | true =>
             cases alM : decide (a.cG < (m.Operations.l.length : Int)) with
             | false => rfl
             | true =>
               have hin : 0 <= a.cG := by simpa using alL
               have Lk : a.cG < (m.Operations.l.length : Int) := by simpa using alM
               have hK : a.cG.toNat < m.Operations.l.length := by omega
               have cV : m.Operations.l[a.cG.toNat]? = some m.Operations.l[a.cG.toNat] := by simp [hK]
               have ET := fm cV
               simp only [fQ, cond_false, u6 hin, cV, aW, XW, dt]
               cases hlen : a.dz.l.length == (m.Operations.l[a.cG.toNat]).aO.l.length with
               | false => rfl
               | true =>
                 simp only [fQ, cond_false, dt]
                 rw [alG (ho _ ET) (Jl _ ET) (by simpa using hlen) hin cV]
                 simp only [aW]
                 cases allI (s6 m.aO.l a.dz.l) (m.Operations.l[a.cG.toNat]).aO.l with
                 | false => rfl
                 | true =>
                   simp only [cond_true, dt]
                   have lz := dw a dn
                   rw [alz m a.dM h1 U hc gT af lz.d lz.u lz.h lz.r]
                   have lW : ((bif (decide ((k : Int) > 0)) then ((aR m.Actions.l (aQ ((k : Int) - 1))).bind fun ys => (((bif (decide (ys.cG > a.cG)) then some true else (bif (ys.cG == a.cG) then ((DO ys.dz a.dz).bind fun Nh => some (!Nh)) else some false)) : Option (Bool)).bind fun Ni => (bif Ni then some (.ret ()) else some (.go ())))) else some (.go ())) : Option (bK (Unit) (Unit))) = some (bif za m.Actions.l k a then .go () else .ret ()) := by
                    cases k with
                    | zero => rfl
                    | succ k =>
                      have ai : k < m.Actions.l.length := by omega
                      have aP : m.Actions.l[k]? = some m.Actions.l[k] := by simp [ai]
                      have rU : decide ((((k + 1 : Nat)) : Int) > 0) = true := decide_eq_true (by omega)
                      have hw : aQ (((k + 1 : Nat) : Int) - 1) = (k : Int) := Bj (by unfold bl at dT; omega)
                      rw [rU, hw]
                      unfold za
                      simp only [cond_true, c5, aP, aW, alE _ _ (hA _ (JQ ai))]
                      cases decide (m.Actions.l[k].cG > a.cG) with
                      | true => rfl
                      | false =>
                        cases m.Actions.l[k].cG == a.cG with
                        | false => rfl
                        | true => cases lM m.Actions.l[k].dz.l a.dz.l <;> rfl
                   rw [lW]
                   simp only [aW]
                   cases za m.Actions.l k a with
                   | false => rfl
                   | true => cases y8 m.aO.l m.Tables.l ((hk m.aO.l m.Tables.l true).length : Int) a.dM <;> rfl
          rw [ae]
          constructor
          · intro bd
            rw [bd, ep (by unfold bl at dT; omega)]
            exact ⟨_, rfl, rfl⟩
          · intro bd; rw [bd]; rfl) (fun st aZ => by subst aZ; simp only [DV, fP, cond_false]) (s := 0) rfl]
         cases allI (u5 m.aO.l m.Tables.l ((hk m.aO.l m.Tables.l true).length : Int) m.Operations.l m.Actions.l) m.Actions.l <;> rfl
end
end Go.Abs.b1
namespace Go.Abs.b1
open Go Go.Abs
noncomputable section
theorem OR (m : Model) (aJ : bl m.bn.l) (a b : Int) (k : Nat) (ai : k < 1000000) (g : Model -> Int -> Int -> Int -> Option Bool) (bt : ∀ c, 0 < k -> g m c b ((k - 1 : Nat) : Int) = some (fu m.bn.l (k - 1) c b)) :
  pF g m a b (k : Int) = some (fu m.bn.l k a b) := by
 unfold pF
 cases kL : a == b with
 | true => cases k <;> simp [fu, kL]
 | false =>
   simp only [cond_false]
   cases k with
   | zero =>
     have : bU (oK m a b ((0 : Nat) : Int) g) 0 = some (.go ()) := by
      rw [kt]
      have : oK m a b ((0 : Nat) : Int) g 0 = some (.out (.go ())) := by
       have hd : (decide ((0 : Int) < m.bn.len) && decide (((0 : Nat) : Int) > 0)) = false := by simp
       simp only [oK, hd, cond_false]
      rw [this]
     rw [this]
     simp [fu, kL]
   | succ k =>
     have rU : decide (((k + 1 : Nat) : Int) > 0) = true := decide_eq_true (by omega)
     have hw : aQ (((k + 1 : Nat) : Int) - 1) = (k : Int) := Bj (by omega)
     rw [mA (f := oK m a b ((k + 1 : Nat) : Int) g) m.bn.l aJ (fun h => (h.Table == a) && fu m.bn.l k h.bS b) (fun i h hx => by
      have e := bt h.bS (by omega)
      have e2 : k + 1 - 1 = k := by omega
      rw [e2] at e
      simp only [oK, fj (eI hx), rU, zq, cond_true, c5, hx, aW, hw, e]
      cases h.Table == a with
      | false => rfl
      | true => cases fu m.bn.l k h.bS b <;> rfl) (by
      simp only [oK, fP, BC, cond_false])]
     simp only [fu, kL, tj, aW]
     cases m.bn.l.any fun h => (h.Table == a) && fu m.bn.l k h.bS b <;> rfl
theorem alN (m : Model) (aJ : bl m.bn.l) (a b : Int) (k : Nat) (ai : k < 1000000) : HY m a b (k : Int) = some (fu m.bn.l k a b) := by
 unfold HY
 have hit : ∀ (k : Nat), k < 1000000 -> ∀ (a : Int) (n : Nat), k < n -> nf (A := Model × Int × Int × Int) (fun g p => pF (fun b8 bu cq dd => g (b8, bu, cq, dd)) p.1 p.2.1 p.2.2.1 p.2.2.2) n (m, a, b, (k : Int)) = some (fu m.bn.l k a b) := by
  intro k
  induction k with
  | zero =>
    intro ai a n hn
    cases n with
    | zero => omega
    | succ n => exact OR m aJ a b 0 ai _ (fun c h => by omega)
  | succ k ih =>
    intro ai a n hn
    cases n with
    | zero => omega
    | succ n => exact OR m aJ a b (k + 1) ai _ (fun c _ => ih (by omega) c n (by omega))
 refine afP (n := k + 1) (hit k ai a (k + 1) (by omega)) fun n r hr => ?_
 rcases gg k n with h | h
 · rw [hit k ai a n h] at hr; cases hr; rfl
 ·
  have alO : ∀ (n k : Nat), k < 1000000 -> ∀ (a : Int) (r : Bool), nf (A := Model × Int × Int × Int) (fun g p => pF (fun b8 bu cq dd => g (b8, bu, cq, dd)) p.1 p.2.1 p.2.2.1 p.2.2.2) n (m, a, b, (k : Int)) = some r -> r = fu m.bn.l k a b := by
   intro n
   induction n with
   | zero => intro k _ a r hr; cases hr
   | succ n ih =>
     intro k ai a r hr
     have fT : pF (fun b8 bu cq dd => nf (A := Model × Int × Int × Int) (fun g p => pF (fun b8 bu cq dd => g (b8, bu, cq, dd)) p.1 p.2.1 p.2.2.1 p.2.2.2) n (b8, bu, cq, dd)) m a b (k : Int) = some r := hr
     have full := OR m aJ a b k ai (fun b8 bu cq dd => some (fu m.bn.l (k - 1) bu b)) (fun c _ => rfl)
     unfold pF at fT full
     cases kL : a == b with
     | true => rw [kL] at fT full; simp only [cond_true] at fT full; rw [fT] at full; cases full; rfl
     | false =>
       rw [kL] at fT full
       simp only [cond_false] at fT full
       obtain ⟨o, ho, CF⟩ := dG.1 fT
       have ra : bU (oK m a b (k : Int) (fun b8 bu cq dd => some (fu m.bn.l (k - 1) bu b))) 0 = some o := by
        obtain ⟨q, bD⟩ := uC.1 ho
        refine uC.2 ⟨q, ?_⟩
        have mono : ∀ (q : Nat) (i : Int) (o : bK Unit Unit), nP (oK m a b (k : Int) (fun b8 bu cq dd => nf (A := Model × Int × Int × Int) (fun g p => pF (fun b8 bu cq dd => g (b8, bu, cq, dd)) p.1 p.2.1 p.2.2.1 p.2.2.2) n (b8, bu, cq, dd))) q i = some o ->
          nP (oK m a b (k : Int) (fun b8 bu cq dd => some (fu m.bn.l (k - 1) bu b))) q i = some o := by
         intro q
         induction q with
         | zero => intro i o h; cases h
         | succ q alP =>
           intro i o h
           simp only [nP] at h ⊢
           have cp : ∀ z, oK m a b (k : Int) (fun b8 bu cq dd => nf (A := Model × Int × Int × Int) (fun g p => pF (fun b8 bu cq dd => g (b8, bu, cq, dd)) p.1 p.2.1 p.2.2.1 p.2.2.2) n (b8, bu, cq, dd)) i = some z ->
             oK m a b (k : Int) (fun b8 bu cq dd => some (fu m.bn.l (k - 1) bu b)) i = some z := by
            intro z aP
            unfold oK at aP ⊢
            cases hc : (decide (i < m.bn.len) && decide ((k : Int) > 0)) with
            | false => rw [hc] at aP; exact aP
            | true =>
              rw [hc] at aP
              simp only [cond_true] at aP ⊢
              have q8 : 0 < k := by
               simp only [cd, decide_eq_true_eq] at hc; omega
              have hw : aQ ((k : Int) - 1) = ((k - 1 : Nat) : Int) := by rw [gf (by omega) (by omega)]; omega
              rw [hw] at aP
              cases hx : aR m.bn.l i with
              | none => rw [hx] at aP; cases aP
              | some h =>
                rw [hx] at aP
                simp only [aW] at aP ⊢
                cases ht : h.Table == a with
                | false => rw [ht] at aP; exact aP
                | true =>
                  rw [ht] at aP
                  simp only [cond_true] at aP ⊢
                  cases Cf : nf (A := Model × Int × Int × Int) (fun g p => pF (fun b8 bu cq dd => g (b8, bu, cq, dd)) p.1 p.2.1 p.2.2.1 p.2.2.2) n (m, h.bS, b, ((k - 1 : Nat) : Int)) with
                  | none => rw [Cf] at aP; cases aP
                  | some y =>
                    rw [Cf] at aP
                    have := ih (k - 1) (by omega) h.bS y Cf
                    rw [this] at aP
                    exact aP
           cases aP : oK m a b (k : Int) (fun b8 bu cq dd => nf (A := Model × Int × Int × Int) (fun g p => pF (fun b8 bu cq dd => g (b8, bu, cq, dd)) p.1 p.2.1 p.2.2.1 p.2.2.2) n (b8, bu, cq, dd)) i with
           | none => rw [aP] at h; cases h
           | some z =>
             rw [cp z aP]
             rw [aP] at h
             cases z with
             | next j => exact alP j o h
             | out u => exact h
        exact mono q 0 o bD
       rw [ra] at full
       rw [aW, CF] at full
       cases full; rfl
  exact alO n k ai a r hr
theorem alQ {ts : ak Table} {h : fN} : (bif ((decide (h.Table < 0)) || ((decide (h.Table >= ts.len)) || ((decide (h.bS < 0)) || ((decide (h.bS >= ts.len)) || (h.Table == h.bS))))) then some true else ((aR ts.l h.Table).bind fun l3 => ((aR ts.l h.bS).bind fun pD => (((bif (l3.Kind != 0) then some true else (bif (pD.Kind != 0) then some true else (bif (decide (h.fi < 0)) then some true else (bif (decide (h.fi >= l3.aX.len)) then some true else (bif (pD.aX.len != 1) then some true else ((aR pD.aX.l 0).bind fun qA => ((aR l3.aX.l h.fi).bind fun yq => some (qA != yq)))))))) : Option (Bool))))) : Option Bool) = some (!oJ ts.l h) := by
 unfold oJ
 rw [oS h.Table, oS h.bS, show decide (h.Table >= ts.len) = !decide (h.Table < (ts.l.length : Int)) from by rw [oS, dF]; simp, show decide (h.bS >= ts.len) = !decide (h.bS < (ts.l.length : Int)) from by rw [oS, dF]; simp]
 cases al : decide (h.Table >= 0) with
 | false => rfl
 | true =>
   cases a2 : decide (h.Table < (ts.l.length : Int)) with
   | false => rfl
   | true =>
     cases a3 : decide (h.bS >= 0) with
     | false => rfl
     | true =>
       cases a4 : decide (h.bS < (ts.l.length : Int)) with
       | false => rfl
       | true =>
         cases h.Table == h.bS with
         | true => rfl
         | false =>
           have ec : 0 <= h.Table := by simpa using al
           have gJ : h.Table < (ts.l.length : Int) := by simpa using a2
           have ju : 0 <= h.bS := by simpa using a3
           have lb : h.bS < (ts.l.length : Int) := by simpa using a4
           have dL : h.Table.toNat < ts.l.length := by omega
           have e7 : h.bS.toNat < ts.l.length := by omega
           have g1 : ts.l[h.Table.toNat]? = some ts.l[h.Table.toNat] := by simp [dL]
           have g2 : ts.l[h.bS.toNat]? = some ts.l[h.bS.toNat] := by simp [e7]
           simp only [fQ, zs, cond_false, u6 ec, u6 ju, g1, g2, aW, o0, dt, bne]
           cases ts.l[h.Table.toNat].Kind == 0 with
           | false => rfl
           | true =>
             cases ts.l[h.bS.toNat].Kind == 0 with
             | false => rfl
             | true =>
               rw [oS h.fi, show decide (h.fi >= ts.l[h.Table.toNat].aX.len) = !decide (h.fi < (ts.l[h.Table.toNat].aX.l.length : Int)) from by rw [oS, dF]; simp]
               cases d1 : decide (h.fi >= 0) with
               | false => rfl
               | true =>
                 cases d2 : decide (h.fi < (ts.l[h.Table.toNat].aX.l.length : Int)) with
                 | false => rfl
                 | true =>
                   rw [show (ts.l[h.bS.toNat].aX.len == 1) = (ts.l[h.bS.toNat].aX.l.length == 1) from EP _ 1]
                   cases d3 : ts.l[h.bS.toNat].aX.l.length == 1 with
                   | false => rfl
                   | true =>
                     have ah : 0 <= h.fi := by simpa using d1
                     have e2 : h.fi < (ts.l[h.Table.toNat].aX.l.length : Int) := by simpa using d2
                     have b5 : ts.l[h.bS.toNat].aX.l.length = 1 := by simpa using d3
                     have f1 : h.fi.toNat < ts.l[h.Table.toNat].aX.l.length := by omega
                     have cn : ts.l[h.Table.toNat].aX.l[h.fi.toNat]? = some ts.l[h.Table.toNat].aX.l[h.fi.toNat] := by simp [f1]
                     have f2 : 0 < ts.l[h.bS.toNat].aX.l.length := by omega
                     have dZ : ts.l[h.bS.toNat].aX.l[0]? = some ts.l[h.bS.toNat].aX.l[0] := by simp [f2]
                     simp only [fQ, cond_false, u6 ah, Ox, cn, dZ, aW, dt, Bl cn, Bl dZ]
theorem alR (m : Model) (U : bl m.Tables.l) (aJ : bl m.bn.l) (hT : m.Tables.l.length < 1000000) : H4 m = some (ya m.Tables.l m.bn.l) := by
 unfold H4 ya
 rw [show decide (m.bn.len > 12) = !decide (m.bn.l.length <= 12) from jz m.bn 12]
 cases decide (m.bn.l.length <= 12) with
 | false => rfl
 | true =>
   simp only [fQ, cond_false, dt]
   rw [mA (f := HZ m) m.bn.l aJ (fun h => !oJ m.Tables.l h) (fun k h hx => by
    have e := alQ (ts := m.Tables) (h := h)
    simp only [HZ, fj (eI hx), cond_true, c5, hx, aW]
    cases hc : ((decide (h.Table < 0)) || ((decide (h.Table >= m.Tables.len)) || ((decide (h.bS < 0)) || ((decide (h.bS >= m.Tables.len)) || (h.Table == h.bS))))) with
    | true =>
      rw [hc] at e
      simp only [cond_true, aA] at e
      rw [<- e]; rfl
    | false =>
      rw [hc] at e
      simp only [cond_false] at e ⊢
      obtain ⟨t, ah, e⟩ := dG.1 e
      obtain ⟨u, e2, e⟩ := dG.1 e
      rw [ah, e2]
      simp only [aW]
      rw [e]
      cases oJ m.Tables.l h <;> rfl) (by simp only [HZ, fP, cond_false])]
   rw [nt]
   cases m.bn.l.any (fun h => !oJ m.Tables.l h) with
   | true => rfl
   | false =>
     simp only [cond_false, aW, o0, dt]
     rw [mA (f := H3 m) m.bn.l aJ (fun h => fu m.bn.l m.Tables.l.length h.bS h.Table) (fun k h hx => by
      have hl : m.Tables.len = ((m.Tables.l.length : Nat) : Int) := rfl
      simp only [H3, fj (eI hx), cond_true, c5, hx, aW, hl, alN m aJ h.bS h.Table m.Tables.l.length hT]
      cases fu m.bn.l m.Tables.l.length h.bS h.Table <;> rfl) (by simp only [H3, fP, cond_false])]
     unfold C3
     have : (m.bn.l.all fun h => !fu m.bn.l m.Tables.l.length h.bS h.Table) = !(m.bn.l.any fun h => fu m.bn.l m.Tables.l.length h.bS h.Table) := by
      rw [nt]; simp
     rw [this]
     cases m.bn.l.any fun h => fu m.bn.l m.Tables.l.length h.bS h.Table <;> rfl
end
end Go.Abs.b1
namespace Go.Abs.b1
open Go Go.Abs
noncomputable section
theorem alS {ts : ak Table} {h : fN} : (((l4 h.Table ts.len).bind fun kX => (bif kX then ((l4 h.bS ts.len).bind fun nh => (bif nh then some (h.Table == h.bS) else some true)) else some true)) : Option Bool) = some (!((decide (h.Table >= 0) && decide (h.Table < ts.l.length)) && ((decide (h.bS >= 0) && decide (h.bS < ts.l.length)) && !(h.Table == h.bS)))) := by
 unfold l4
 rw [dF]
 cases (decide (h.Table >= 0) && decide (h.Table < (ts.l.length : Int))) with
 | false => rfl
 | true =>
   cases (decide (h.bS >= 0) && decide (h.bS < (ts.l.length : Int))) with
   | false => rfl
   | true => cases h.Table == h.bS <;> rfl
theorem alT (j : dJ) {k : Nat} {h : fN} (hx : j.Model.bn.l[k]? = some h) : yU j (k : Int) = some (bif !oJ j.Model.Tables.l h then .out (.ret ()) else .next (aQ ((k : Int) + 1))) := by
 simp only [yU, fj (eI hx), cond_true, c5, hx, aW]
 rw [alS]
 unfold oJ
 cases a : (decide (h.Table >= 0) && decide (h.Table < (j.Model.Tables.l.length : Int))) with
 | false => rfl
 | true =>
   cases b : (decide (h.bS >= 0) && decide (h.bS < (j.Model.Tables.l.length : Int))) with
   | false => rfl
   | true =>
     cases h.Table == h.bS with
     | true => rfl
     | false =>
       simp only [cd, decide_eq_true_eq] at a b
       have dL : h.Table.toNat < j.Model.Tables.l.length := by omega
       have e7 : h.bS.toNat < j.Model.Tables.l.length := by omega
       have g1 : j.Model.Tables.l[h.Table.toNat]? = some j.Model.Tables.l[h.Table.toNat] := by simp [dL]
       have g2 : j.Model.Tables.l[h.bS.toNat]? = some j.Model.Tables.l[h.bS.toNat] := by simp [e7]
       simp only [o0, zq, dt, fQ, aW, cond_false, u6 a.1, u6 b.1, g1, g2, bne, l4]
       cases j.Model.Tables.l[h.Table.toNat].Kind == 0 with
       | false => rfl
       | true =>
         cases j.Model.Tables.l[h.bS.toNat].Kind == 0 with
         | false => rfl
         | true =>
           rw [dF j.Model.Tables.l[h.Table.toNat].aX, show (j.Model.Tables.l[h.bS.toNat].aX.len == 1) = (j.Model.Tables.l[h.bS.toNat].aX.l.length == 1) from EP _ 1]
           cases d : (decide (h.fi >= 0) && decide (h.fi < (j.Model.Tables.l[h.Table.toNat].aX.l.length : Int))) with
           | false => rfl
           | true =>
             cases d3 : j.Model.Tables.l[h.bS.toNat].aX.l.length == 1 with
             | false => rfl
             | true =>
               simp only [cd, decide_eq_true_eq] at d
               have b5 : j.Model.Tables.l[h.bS.toNat].aX.l.length = 1 := by simpa using d3
               have f1 : h.fi.toNat < j.Model.Tables.l[h.Table.toNat].aX.l.length := by omega
               have cn : j.Model.Tables.l[h.Table.toNat].aX.l[h.fi.toNat]? = some j.Model.Tables.l[h.Table.toNat].aX.l[h.fi.toNat] := by simp [f1]
               have f2 : 0 < j.Model.Tables.l[h.bS.toNat].aX.l.length := by omega
               have dZ : j.Model.Tables.l[h.bS.toNat].aX.l[0]? = some j.Model.Tables.l[h.bS.toNat].aX.l[0] := by simp [f2]
               simp only [fQ, o0, cond_true, cond_false, u6 d.1, Ox, cn, dZ, aW, dt, Bl cn, Bl dZ]
               cases j.Model.Tables.l[h.bS.toNat].aX.l[0] == j.Model.Tables.l[h.Table.toNat].aX.l[h.fi.toNat] <;> rfl
theorem alU (j : dJ) : I6 j = some (decide (j.Model.bn.l.length <= 12) && j.Model.bn.l.all (oJ j.Model.Tables.l)) := by
 unfold I6
 rw [show decide (j.Model.bn.len > 12) = !decide (j.Model.bn.l.length <= 12) from jz j.Model.bn 12]
 cases h : decide (j.Model.bn.l.length <= 12) with
 | false => rfl
 | true =>
   have hl : j.Model.bn.l.length <= 12 := by simpa using h
   simp only [fQ, cond_false, dt]
   rw [mA (f := yU j) j.Model.bn.l (by omega) (fun h => !oJ j.Model.Tables.l h) (fun k h hx => alT j hx) (by simp only [yU, fP, cond_false])]
   rw [nt]
   cases j.Model.bn.l.any (fun h => !oJ j.Model.Tables.l h) <;> rfl
def cB (ks : List Int) : List (Int × Bool) := ks.map fun t => (t, true)
def wL (ks : List Int) (t : Int) : List Int := if t ∈ ks then ks else ks ++ [t]
theorem XZ (t : Int) : ∀ ks, lC (cB ks) t true = cB (wL ks t)
 | [] => rfl
 | k :: ks => by
   have ih := XZ t ks
   unfold cB wL at *
   simp only [eD, lC]
   by_cases e : t = k
   · subst e; simp
   · have ah : (t == k) = false := by simp [e]
     rw [ah]
     simp only [gX, if_false, ih, dS, e, false_or]
     by_cases h : t ∈ ks <;> simp [h]
theorem X0 (t : Int) : ∀ ks, (ie (cB ks) t).getD false = decide (t ∈ ks)
 | [] => rfl
 | k :: ks => by
   have ih := X0 t ks
   unfold cB ie at *
   simp only [eD, JR]
   by_cases e : t = k
   · subst e; simp
   · have ah : (t == k) = false := by simp [e]
     rw [ah]
     simp only [ih, dS, e, false_or]
theorem OS (t : Int) : ∀ ks, hY 0 (aI t) (ga aI V.bool (cB ks)) = ga aI V.bool (cB (ks.erase t))
 | [] => rfl
 | k :: ks => by
   have ih := OS t ks
   simp only [cB, ga] at ih ⊢
   simp only [eD, hY, CW, aA, beq_iff_eq, List.erase_cons]
   by_cases e : t = k
   · subst e; simp
   · rw [if_neg e, if_neg (fun h => e h.symm), ih]; rfl
theorem alV {ks : List Int} (h : ks.Nodup) (t : Int) : (wL ks t).Nodup := by
 unfold wL
 split
 · exact h
 · rename_i hn
   exact Fe.2 ⟨h, by simp, fun x hx y hy => by
    simp only [dS, w0, or_false] at hy
    subst hy
    exact fun q => hn (q ▸ hx)⟩
theorem alW {ks : List Int} {t x : Int} : x ∈ wL ks t ↔ x ∈ ks \/ x = t := by
 unfold wL
 split
 · rename_i h; exact ⟨.inl, fun q => q.elim id fun e => e ▸ h⟩
 · simp
def wM (hs : List fN) (ks : List Int) : List Int := hs.foldl (fun ks h => wL ks h.Table) ks
theorem X1 : ∀ (hs : List fN) {ks : List Int}, ks.Nodup -> (wM hs ks).Nodup
 | [], _, h => h
 | _ :: hs, _, h => X1 hs (alV h _)
theorem X2 : ∀ (hs : List fN) {ks : List Int} {t : Int}, t ∈ wM hs ks ↔ t ∈ ks \/ ∃ h ∈ hs, h.Table = t
 | [], ks, t => by simp [wM]
 | h :: hs, ks, t => by
   have := X2 hs (ks := wL ks h.Table) (t := t)
   unfold wM at this ⊢
   rw [vi, this, alW]
   simp only [dS, exists_eq_or_imp, or_assoc, eq_comm (a := t)]
theorem alX (j : dJ) (hl : j.Model.bn.l.length <= 12) : bU (yV j) (0, []) = some (cB (wM j.Model.bn.l [])) := by
 have key : ∀ (n k : Nat) (ks : List Int), k + n = j.Model.bn.l.length -> bU (yV j) ((k : Int), cB ks) = some (cB (wM (j.Model.bn.l.drop k) ks)) := by
  intro n
  induction n with
  | zero =>
    intro k ks ai
    have e : k = j.Model.bn.l.length := by omega
    rw [kt]
    subst e
    simp only [yV, fP, cond_false, List.drop_length]; rfl
  | succ n ih =>
    intro k ks ai
    have aH : k < j.Model.bn.l.length := by omega
    have hx : j.Model.bn.l[k]? = some j.Model.bn.l[k] := by simp [aH]
    rw [kt]
    simp only [yV, fj aH, cond_true, c5, hx, aW, XZ]
    rw [ep (by omega), ih (k + 1) _ (by omega), oU aH]
    rfl
 exact key j.Model.bn.l.length 0 [] (by omega)
theorem alY (j : dJ) (hl : j.Model.bn.l.length <= 12) (t : Int) (ks : List Int) :
  DX j.Model.bn (fun h => some ((h.Table == t) && (ie (cB ks) h.bS).getD false)) = some (j.Model.bn.l.any fun h => (h.Table == t) && decide (h.bS ∈ ks)) := by
 exact EJ j.Model.bn (by omega) (fun h _ => by rw [X0])
end
end Go.Abs.b1
