/- Texts of this claim, joined and written short by a program. -/
import Derived.Test.YtjgngmpmjbkbpaaGreatDoorP39
import Derived.Test.YtjgngmpmjbkbpaaGreatDoorP35
import Derived.Test.YtjgngmpmjbkbpaaGreatDoorP17
import Derived.Test.YtjgngmpmjbkbpaaGreatDoorP00
set_option linter.unusedVariables false
set_option linter.unusedSimpArgs false
set_option linter.unusedSectionVars false
namespace Go.Abs.U
open Go Go.Abs
noncomputable section
theorem O2 (x : bQ) (n : Nat) : decide ((x.length : Int) > (n : Int)) = !decide (x.length <= n) := by
 rw [XR]; congr 1; exact decide_eq_decide.2 (by omega)
def EX (t : Table) : Bool := decide (t.Name.length <= 40) && decide (t.aX.l.length <= 12)
def EY (s : List Int) (ts : List Table) : Bool := ts.all EX && (decide (s.length <= 12) && decide (ts.length <= 20))
theorem amp (s : ak Int) (ts : ak Table) (h : bl ts.l) : G9 s ts = some (EY s.l ts.l) := by
 unfold G9
 rw [mA (f := G8 ts) ts.l h (fun t => !EX t) (fun k t ht => by
  simp only [G8, fj (eI ht), cond_true, c5, ht, aW]
  rw [show decide ((t.Name.length : Int) > 40) = !decide (t.Name.length <= 40) from O2 t.Name 40, show decide (t.aX.len > 12) = !decide (t.aX.l.length <= 12) from jz t.aX 12]
  unfold EX
  cases decide (t.Name.length <= 40) <;> cases decide (t.aX.l.length <= 12) <;> rfl) (by simp only [G8, fP, cond_false])]
 unfold EY
 rw [nt, show decide (s.len <= 12) = decide (s.l.length <= 12) from y9 s 12, show decide (ts.len <= 20) = decide (ts.l.length <= 20) from y9 ts 20]
 cases ts.l.any fun t => !EX t <;> rfl
def EZ (o : cG) : Bool := decide (o.Name.length <= 40) && decide (o.aO.l.length <= 6)
def O3 (x : dM) : Bool := decide (x.Delta.l.length <= 20) && (decide (x.fC.l.length <= 10) && decide (x.er.l.length <= 40))
def O4 (x : dM) : Bool := x.fC.l.all fun r => decide (r.cY.l.length <= 20)
def E0 (a : Action) : Bool := (decide (a.dz.l.length <= 6) && O3 a.dM) && O4 a.dM
def Bo (m : Model) : Bool :=
 (decide (m.aO.l.length <= 8) && (decide (m.Tables.l.length <= 6) && (decide (m.dR.l.length <= 20) && (decide (m.c8.l.length <= 60) && (decide (m.Operations.l.length <= 8) && (decide (m.Actions.l.length <= 30) && (decide (m.bn.l.length <= 12) && EY m.aO.l m.Tables.l))))))) &&
 ((m.dR.l.all fun x => decide (x.length <= 40)) && ((m.c8.l.all fun c => decide (c.Row.cY.l.length <= 20)) && (m.Operations.l.all EZ && m.Actions.l.all E0)))
theorem amq (m : Model) : Hg m = some (Bo m) := by
 unfold Hg Bo
 rw [show decide (m.aO.len > 8) = !decide (m.aO.l.length <= 8) from jz m.aO 8, show decide (m.Tables.len > 6) = !decide (m.Tables.l.length <= 6) from jz m.Tables 6,
  show decide (m.dR.len > 20) = !decide (m.dR.l.length <= 20) from jz m.dR 20, show decide (m.c8.len > 60) = !decide (m.c8.l.length <= 60) from jz m.c8 60,
  show decide (m.Operations.len > 8) = !decide (m.Operations.l.length <= 8) from jz m.Operations 8, show decide (m.Actions.len > 30) = !decide (m.Actions.l.length <= 30) from jz m.Actions 30,
  show decide (m.bn.len > 12) = !decide (m.bn.l.length <= 12) from jz m.bn 12]
 cases h1 : decide (m.aO.l.length <= 8) with
 | false => rfl
 | true =>
 cases h2 : decide (m.Tables.l.length <= 6) with
 | false => rfl
 | true =>
 cases av : decide (m.dR.l.length <= 20) with
 | false => rfl
 | true =>
 cases bc : decide (m.c8.l.length <= 60) with
 | false => rfl
 | true =>
 cases h5 : decide (m.Operations.l.length <= 8) with
 | false => rfl
 | true =>
 cases gu : decide (m.Actions.l.length <= 30) with
 | false => rfl
 | true =>
 cases lv : decide (m.bn.l.length <= 12) with
 | false => rfl
 | true =>
 have aS : m.Tables.l.length <= 6 := by simpa using h2
 have bZ : m.dR.l.length <= 20 := by simpa using av
 have cR : m.c8.l.length <= 60 := by simpa using bc
 have e8 : m.Operations.l.length <= 8 := by simpa using h5
 have hC : m.Actions.l.length <= 30 := by simpa using gu
 simp only [fQ, cond_false, dt]
 rw [amp m.aO m.Tables (by unfold bl; omega)]
 cases EY m.aO.l m.Tables.l with
 | false => rfl
 | true =>
 simp only [aW, fQ, cond_false, dt]
 rw [mA (f := Ha m) m.dR.l (by omega) (fun x => !decide (x.length <= 40)) (fun k x hx => by
  simp only [Ha, fj (eI hx), cond_true, c5, hx, aW]
  rw [show decide ((x.length : Int) > 40) = !decide (x.length <= 40) from O2 x 40]
  cases decide (x.length <= 40) <;> rfl) (by simp only [Ha, fP, cond_false])]
 rw [nt]
 cases m.dR.l.any fun x => !decide (x.length <= 40) with
 | true => rfl
 | false =>
 simp only [aW, o0, cond_false, dt]
 rw [mA (f := Hb m) m.c8.l (by omega) (fun c => !decide (c.Row.cY.l.length <= 20)) (fun k c hx => by
  simp only [Hb, fj (eI hx), cond_true, c5, hx, aW]
  rw [show decide (c.Row.cY.len > 20) = !decide (c.Row.cY.l.length <= 20) from jz c.Row.cY 20]
  cases decide (c.Row.cY.l.length <= 20) <;> rfl) (by simp only [Hb, fP, cond_false])]
 rw [nt (l := m.c8.l)]
 cases m.c8.l.any fun c => !decide (c.Row.cY.l.length <= 20) with
 | true => rfl
 | false =>
 simp only [aW, o0, cond_false, dt]
 rw [mA (f := Hd m) m.Operations.l (by omega) (fun o => !EZ o) (fun k o hx => by
  simp only [Hd, fj (eI hx), cond_true, c5, hx, aW]
  rw [show decide ((o.Name.length : Int) > 40) = !decide (o.Name.length <= 40) from O2 o.Name 40, show decide (o.aO.len > 6) = !decide (o.aO.l.length <= 6) from jz o.aO 6]
  unfold EZ
  cases decide (o.Name.length <= 40) <;> cases decide (o.aO.l.length <= 6) <;> rfl) (by simp only [Hd, fP, cond_false])]
 rw [nt (l := m.Operations.l)]
 cases m.Operations.l.any fun o => !EZ o with
 | true => rfl
 | false =>
 simp only [aW, o0, cond_false, dt]
 rw [mA (f := Hf m) m.Actions.l (by omega) (fun a => !E0 a) (fun k a hx => by
  simp only [Hf, fj (eI hx), cond_true, c5, hx, aW]
  rw [show decide (a.dz.len > 6) = !decide (a.dz.l.length <= 6) from jz a.dz 6, show decide (a.dM.Delta.len > 20) = !decide (a.dM.Delta.l.length <= 20) from jz a.dM.Delta 20,
   show decide (a.dM.fC.len > 10) = !decide (a.dM.fC.l.length <= 10) from jz a.dM.fC 10, show decide (a.dM.er.len > 40) = !decide (a.dM.er.l.length <= 40) from jz a.dM.er 40]
  unfold E0 O3
  cases decide (a.dz.l.length <= 6) with
  | false => rfl
  | true =>
    cases decide (a.dM.Delta.l.length <= 20) with
    | false => rfl
    | true =>
      cases eK : decide (a.dM.fC.l.length <= 10) with
      | false => rfl
      | true =>
        cases decide (a.dM.er.l.length <= 40) with
        | false => rfl
        | true =>
          have hl : a.dM.fC.l.length <= 10 := by simpa using eK
          simp only [fQ, cond_false, aW, zq, dt]
          rw [mA (f := He a) a.dM.fC.l (by omega) (fun r => !decide (r.cY.l.length <= 20)) (fun k r hx => by
           simp only [He, fj (eI hx), cond_true, c5, hx, aW]
           rw [show decide (r.cY.len > 20) = !decide (r.cY.l.length <= 20) from jz r.cY 20]
           cases decide (r.cY.l.length <= 20) <;> rfl) (by simp only [He, fP, cond_false])]
          unfold O4
          rw [nt]
          cases a.dM.fC.l.any fun r => !decide (r.cY.l.length <= 20) <;> rfl) (by simp only [Hf, fP, cond_false])]
 rw [nt (l := m.Actions.l)]
 cases m.Actions.l.any fun a => !E0 a <;> rfl
structure O5 (m : Model) : Prop where
 Ya : m.aO.l.length <= 8
 tables : m.Tables.l.length <= 6
 Yb : m.dR.l.length <= 21
 cons : m.c8.l.length <= 60
 ops : m.Operations.l.length <= 8
 s7 : m.Actions.l.length <= 31
 amr : m.bn.l.length <= 13
 ad : ∀ t ∈ m.Tables.l, t.Name.length <= 40 /\ t.aX.l.length <= 12
 ams : ∀ x ∈ m.dR.l, x.length <= 40
 Yc : ∀ c ∈ m.c8.l, c.Row.cY.l.length <= 20
 op : ∀ o ∈ m.Operations.l, o.Name.length <= 40 /\ o.aO.l.length <= 6
 act : ∀ a ∈ m.Actions.l, a.dz.l.length <= 6 /\ OQ a.dM
theorem Yd {m : Model} (h : Bo m = true) : O5 m := by
 unfold Bo EY at h
 simp only [cd, decide_eq_true_eq, fo] at h
 obtain ⟨⟨al, a2, a3, a4, a5, Bp, ew, amt, -, -⟩, ec, gJ, ju, lb⟩ := h
 refine ⟨al, a2, by omega, a4, a5, by omega, by omega, fun t ht => ?_, ec, gJ, fun o ho => ?_, fun a ao => ?_⟩
 · have := amt t ht
   unfold EX at this
   simpa using this
 · have := ju o ho
   unfold EZ at this
   simpa using this
 · have := lb a ao
   unfold E0 O3 O4 at this
   simp only [cd, decide_eq_true_eq, fo] at this
   obtain ⟨⟨dL, e7, gE, jG⟩, iX⟩ := this
   exact ⟨dL, by unfold bl; omega, by unfold bl; omega, by unfold bl; omega, fun r hr => by have := iX r hr; unfold bl; omega⟩
def zd (m : Model) : Bool :=
 ji m.aO.l m.Tables.l && (decide (m.dR.l.length <= 24) && (u1 m.dR.l && (y2 m.aO.l m.Tables.l (hk m.aO.l m.Tables.l true) m.dR.len m.c8.l && (wK m.aO.l.length m.Operations.l &&
  (zb m.aO.l m.Tables.l (hk m.aO.l m.Tables.l true).length m.Operations.l m.Actions.l && ya m.Tables.l m.bn.l)))))
theorem amu {m : Model} (b : O5 m) : Dt m = some (zd m) := by
 have hs : bl m.aO.l := by have := b.Ya; unfold bl; omega
 have ht : bl m.Tables.l := by have := b.tables; unfold bl; omega
 have hc : ∀ t ∈ m.Tables.l, bl t.aX.l := fun t h => by have := b.ad t h; unfold bl; omega
 unfold Dt zd
 rw [OD m.aO m.Tables hs ht hc]
 simp only [aW]
 cases af : ji m.aO.l m.Tables.l with
 | false => rfl
 | true =>
   simp only [cond_true, dt]
   rw [show decide (m.dR.len > 24) = !decide (m.dR.l.length <= 24) from jz m.dR 24]
   cases decide (m.dR.l.length <= 24) with
   | false => rfl
   | true =>
     simp only [fQ, cond_false, dt]
     rw [Xy m.dR (by have := b.Yb; unfold bl; omega)]
     simp only [aW]
     cases u1 m.dR.l with
     | false => rfl
     | true =>
       obtain ⟨x, ex, el⟩ := ak4 m.aO m.Tables true hs ht hc
       rw [af] at el
       simp only [cond_true] at el
       have iu : ∀ t ∈ m.Tables.l, jT m.aO.l.length t.aX.l = true := fun t h => y0 ((yZ af).2.2.2 t h)
       simp only [fQ, cond_false, dt]
       rw [ex]
       simp only [aW]
       have ah := alh (dJ.mk m x) (by have := b.cons; show m.c8.l.length < _; omega) (by show x.l.length <= _; rw [el]; have := XF af true; omega) ht iu (fun c h => by have := b.Yc c h; unfold bl; omega)
       have e2 := alB (dJ.mk m x) (by have := b.ops; show m.Operations.l.length <= _; omega) (fun o h => by have := (b.op o h).2; unfold bl; omega)
       rw [ah, e2]
       simp only [aW]
       rw [show (dJ.mk m x).strict.l = hk m.aO.l m.Tables.l true from el]
       cases y2 m.aO.l m.Tables.l (hk m.aO.l m.Tables.l true) m.dR.len m.c8.l with
       | false => rfl
       | true =>
         simp only [cond_true, dt]
         cases cV : wK m.aO.l.length m.Operations.l with
         | false => rfl
         | true =>
           have O6 := cV
           unfold wK at O6
           simp only [cd, fo] at O6
           have b5 := alH (dJ.mk m x) hs ht hc af O6.1 (fun o h => by have := (b.op o h).2; unfold bl; omega) (fun a h => (b.act a h).2) (fun a h => by have := (b.act a h).1; unfold bl; omega) (by have := b.s7; unfold bl; show m.Actions.l.length < _; omega)
           rw [b5]
           simp only [aW, cond_true, dt]
           rw [show (dJ.mk m x).strict.len = ((hk m.aO.l m.Tables.l true).length : Int) from by rw [dF]; show ((x.l.length : Nat) : Int) = _; rw [el]]
           cases zb m.aO.l m.Tables.l ((hk m.aO.l m.Tables.l true).length : Int) m.Operations.l m.Actions.l <;> rfl
end
end Go.Abs.U
namespace Go.Abs.U
open Go Go.Abs Go.Abs.Lex
noncomputable section
theorem nr (c : UInt8) (n : Nat) : ((c.toNat : Int) == (n : Int)) = (c.toNat == n) := by
 rw [BA]; simp; omega
theorem wO {s : bQ} {k : Nat} (h : k < s.length) : decide ((k : Int) < (s.length : Int)) = true := by simp; exact h
theorem wP {s : bQ} {k : Nat} (h : s.length <= k) : decide ((k : Int) < (s.length : Int)) = false := by simp; exact h
theorem Jo {s : bQ} (hl : s.length < 4611686018427387904) (p : UInt8 -> Bool) {f : Int -> Option (cM Int Int)} (ae : ∀ (k : Nat) c, s[k]? = some c -> f k = some (bif p c then .next (aQ (k + 1)) else .out k)) (he : ∀ k : Nat, s.length <= k -> f k = some (.out k)) :
  ∀ (n k : Nat), k + n = s.length -> bU f (k : Int) = some (((k + gN p (s.drop k) : Nat)) : Int) := by
 intro n
 induction n with
 | zero =>
   intro k ai
   rw [kt, he k (by omega), td (by omega)]; rfl
 | succ n ih =>
   intro k ai
   have aH : k < s.length := by omega
   have hx : s[k]? = some s[k] := by simp [aH]
   rw [kt, ae k _ hx, oU aH, x9]
   cases hp : p s[k] with
   | true =>
     simp only [cond_true, if_true]
     rw [ep (by omega), ih (k + 1) (by omega)]
     congr 2; omega
   | false => rfl
theorem Jp {s : bQ} {a c : Nat} (h1 : a <= c) (h2 : c <= s.length) : oH s (a : Int) (c : Int) = some ((s.take c).drop a) := by
 unfold oH
 rw [if_pos (by omega)]; simp
end
end Go.Abs.U
namespace Go.Abs.U
open Go Go.Abs Go.Abs.Lex
noncomputable section
theorem Pb (c : UInt8) : yt (c.toNat : Int) = some (lE c) := by
 unfold yt lE
 rw [show decide ((c.toNat : Int) >= 97) = decide (97 <= c.toNat) from decide_eq_decide.2 (by omega), show decide ((c.toNat : Int) <= 122) = decide (c.toNat <= 122) from decide_eq_decide.2 (by omega)]
theorem Pc (c : UInt8) : yu (c.toNat : Int) = some (ik c) := by
 unfold yu ik
 rw [show decide ((c.toNat : Int) >= 48) = decide (48 <= c.toNat) from decide_eq_decide.2 (by omega), show decide ((c.toNat : Int) <= 57) = decide (c.toNat <= 57) from decide_eq_decide.2 (by omega)]
theorem amD (c : UInt8) : D2 (c.toNat : Int) = some (kV c) := by
 unfold D2 kV
 rw [Pb, Pc, show ((c.toNat : Int) == 95) = (c.toNat == 95) from nr c 95]
 cases lE c <;> cases ik c <;> rfl
theorem Yg (c : UInt8) : AM (c.toNat : Int) = some (hN c) := by
 unfold AM hN
 rw [show ((c.toNat : Int) == 9) = (c.toNat == 9) from nr c 9, show ((c.toNat : Int) == 10) = (c.toNat == 10) from nr c 10, show ((c.toNat : Int) == 13) = (c.toNat == 13) from nr c 13, show ((c.toNat : Int) == 32) = (c.toNat == 32) from nr c 32]
 cases c.toNat == 9 <;> cases c.toNat == 10 <;> cases c.toNat == 13 <;> cases c.toNat == 32 <;> rfl
theorem amE (c : UInt8) : AO (c.toNat : Int) = some (c.toNat != 10) := by
 unfold AO bne
 rw [show ((c.toNat : Int) == 10) = (c.toNat == 10) from nr c 10]
theorem Yh (s : bQ) (hl : s.length < 4611686018427387904) {f : Int -> Option Bool} {p : UInt8 -> Bool} (ae : ∀ c : UInt8, f (c.toNat : Int) = some (p c)) : AL s f = some ((gN p s : Nat) : Int) := by
 unfold AL
 have h := Jo (s := s) hl p (f := D0 s f) (fun k c hx => by
  have aH := eI hx
  simp only [D0, wO aH, cond_true, c5, hx, aW, ae]
  cases p c <;> rfl) (fun k ai => by simp only [D0, wP ai, cond_false, aW]) s.length 0 (by omega)
 rw [show bU (D0 s f) 0 = _ from h]
 simp
theorem amF (s : bQ) (hl : s.length < 4611686018427387904) : D1 s = some ((gy false s : Nat) : Int) := by
 have key : ∀ (n k : Nat), k + n = s.length -> ∃ o : bK Int Int, bU (AP s) (k : Int) = some o /\ (match o with | .go p => p | .ret p => p) = ((k + gy false (s.drop k) : Nat) : Int) := by
  intro n
  induction n using Nat.strongRecOn with
  | ind n ih =>
    intro k ai
    rw [kt]
    rcases gg k s.length with aH | hge
    · have hx : s[k]? = some s[k] := by simp [aH]
      have l9 : s.drop k = s[k] :: s.drop (k + 1) := oU aH
      have xK : oH s (k : Int) (s.length : Int) = some (s.drop k) := by rw [Jp (by omega) (aK _), Fi]
      have ae : AP s (k : Int) = bif hN s[k] then some (.next (aQ ((k : Int) + 1))) else (bif s[k].toNat == 35 then some (.next (aQ ((k : Int) + (gN (fun c => c.toNat != 10) (s.drop k) : Nat)))) else some (.out (.ret (k : Int)))) := by
       simp only [AP, wO aH, cond_true, c5, hx, aW, Yg, xK, Yh (s.drop k) (by rw [oW]; omega) amE]
       rw [show ((s[k].toNat : Int) == 35) = (s[k].toNat == 35) from nr s[k] 35]
      rw [ae, l9]
      cases hw : hN s[k] with
      | true =>
        simp only [cond_true]
        rw [ep (by omega)]
        obtain ⟨o, h1, h2⟩ := ih (s.length - (k + 1)) (by omega) (k + 1) (by omega)
        refine ⟨o, h1, ?_⟩
        rw [h2]
        simp only [gy, hw, if_true]
        congr 1; omega
      | false =>
        cases ns : s[k].toNat == 35 with
        | true =>
          have s8 : s[k].toNat = 35 := by simpa using ns
          have bA : (fun c : UInt8 => c.toNat != 10) s[k] = true := by simp [s8]
          have hr := G3 (s[k] :: s.drop (k + 1))
          have h0 : gy false (s[k] :: s.drop (k + 1)) = gy true (s[k] :: s.drop (k + 1)) := by
           simp only [gy, hw, gX, if_false, s8, if_true]
           rfl
          have jE : 1 <= gN (fun c => c.toNat != 10) (s[k] :: s.drop (k + 1)) := by rw [x9, if_pos bA]; omega
          have hle : gN (fun c => c.toNat != 10) (s[k] :: s.drop (k + 1)) <= s.length - k := by
           have := v8 (fun c => c.toNat != 10) (s[k] :: s.drop (k + 1))
           rw [<- l9, oW] at this
           rw [l9] at this; exact this
          rw [h0, hr]
          generalize aa : gN (fun c => c.toNat != 10) (s[k] :: s.drop (k + 1)) = R at jE hle ⊢
          have O8 : (s[k] :: s.drop (k + 1)).drop R = s.drop (k + R) := by rw [<- l9, r6]
          simp only [cond_true, cond_false]
          rw [O8, gf (by omega) (by omega)]
          obtain ⟨o, h1, h2⟩ := ih (s.length - (k + R)) (by omega) (k + R) (by omega)
          refine ⟨o, by rw [show (k : Int) + (R : Int) = ((k + R : Nat) : Int) by omega]; exact h1, ?_⟩
          rw [h2]; congr 1; omega
        | false =>
          have O9 : ¬ s[k].toNat = 35 := by simpa using ns
          refine ⟨.ret (k : Int), rfl, ?_⟩
          simp only [gy, hw, gX, if_false, O9]
          simp
    · refine ⟨.go (k : Int), by simp only [AP, wP hge, cond_false], ?_⟩
      rw [td hge]; simp [gy]
 obtain ⟨o, h1, h2⟩ := key s.length 0 (by omega)
 unfold D1
 rw [show bU (AP s) 0 = _ from h1]
 simp only [eF, List.drop_zero] at h2
 cases o <;> simp_all
theorem amG (s w : bQ) : H6 s w = some (pre s w) := by
 unfold H6 Nk pre
 by_cases h : w.length <= s.length
 · have d : decide ((s.length : Int) >= (w.length : Int)) = true := by simp; exact h
   have hs : oH s 0 (w.length : Int) = some (s.take w.length) := by
    have := Jp (s := s) (a := 0) (c := w.length) (cx _) h
    simpa using this
   rw [d, hs]; rfl
 · have d : decide ((s.length : Int) >= (w.length : Int)) = false := by simp; omega
   have e : (s.take w.length == w) = false := by
    rw [JF (by omega), XC]
    intro eK
    have := congrArg List.length (eq_of_beq eK)
    omega
   rw [d, e]; rfl
theorem Yi (s : bQ) : AK s = some ((sym s : Nat) : Int) := by
 unfold AK
 have hl : (ak.mk two).l = two := rfl
 rw [show bU (DY s) 0 = some (bif two.any (pre s) then .ret () else .go ()) from mA (f := DY s) two (by decide) (pre s) (fun k x hx => by
  have hd : decide ((k : Int) < (ak.mk [[61, 61], [33, 61], [60, 61], [62, 61], [46, 46]]).len) = true := fj (show k < two.length from eI hx)
  have bt : ([[61, 61], [33, 61], [60, 61], [62, 61], [46, 46]] : List bQ)[k]? = some x := hx
  simp only [DY, hd, cond_true, ak.l, c5, bt, aW, amG]
  cases pre s x <;> rfl) (by
  have hd : decide ((two.length : Int) < (ak.mk [[61, 61], [33, 61], [60, 61], [62, 61], [46, 46]]).len) = false := by decide
  simp only [DY, hd, cond_false])]
 unfold sym
 cases h : two.any (pre s) with
 | true => rfl
 | false =>
   simp only [cond_false, aW, gX, if_false]
   cases s with
   | nil => rfl
   | cons c r =>
     have bA : ((c :: r) != ([] : bQ)) = true := rfl
     have hi : aR (c :: r) 0 = some c := rfl
     have hu : UInt8.ofNat ((c.toNat : Int)).toNat = c := by simp
     rw [bA, hi]
     simp only [cond_true, aW, strings_IndexByte, hu]
     rw [show decide (Lib.indexByte [60, 62, 61, 43, 45, 42, 40, 41, 123, 125, 44, 58, 59] c >= 0) = Lex.one.contains c from agk Lex.one c]
     cases Lex.one.contains c <;> rfl
theorem amH (c : UInt8) (r : bQ) : DZ (c :: r) = some (ng (c :: r)) := by
 unfold DZ ng
 have hi : aR (c :: r) 0 = some c := rfl
 rw [hi]
 simp only [aW, Pb, Pc, Yi]
 have hd : decide (((sym (c :: r) : Nat) : Int) > 0) = decide (0 < sym (c :: r)) := decide_eq_decide.2 (by omega)
 rw [hd]
 cases lE c <;> cases ik c <;> rfl
end
end Go.Abs.U
namespace Go.Abs.U
open Go Go.Abs Go.Abs.Lex
noncomputable section
variable {ad : Nat -> Option ca}
section
variable {call : c3} {ag : aj -> V} {H : Heap} {low : Nat}
theorem rY (x : aj) : b9 call ag H low (.len 0 x) = match ag x with
  | .str s => some (.int .i64 s.length, H, low)
  | _ => none := by
 show step ag H low (.len 0 x) = _
 cases hx : ag x <;> simp [step, hx]
theorem u9 (x i : aj) : b9 call ag H low (.p6 x i) = match ag x, jW (ag i) with
 | .str s, some i => (s[i]?).map fun c => (.int .u8 c.toNat, H, low)
 | _, _ => none := rfl
theorem Bq (x : aj) (lo hi : Option aj) : b9 call ag H low (.o1 x lo hi) = match ag x with
 | .str s => match eG ag 0 lo, eG ag s.length hi with
   | some a, some b => if a <= b /\ b <= s.length then some (.str ((s.take b).drop a), H, low) else none
   | _, _ => none
 | _ => none := rfl
end
structure mB (ad : Nat -> Option ca) : Prop where
 letter : WK ad
 digit : WL ad
 part : WM ad
 amI : WN ad
 Bc : WO ad
 symbol : WQ ad
 run : WR ad
 skip : WS ad
 nl : WT ad
 aDw : ad 313 = some (.code ayX)
 aDx : ad 314 = some (.code ayY)
 aDy : ad 207 = some (.code ayV)
 aDz : ad 208 = some (.code HI)
 aDA : ∃ sp, ad 382 = some (.ext sp) /\ sp [.str G4] = some (.list 1 (kw.map .str))
def aV (ad : Nat -> Option ca) (f : V) (args : List V) (H : Heap) (v : V) : Prop := cK ad f args H = some (v, H, H.length)
def bv (c : UInt8) : V := .int .u8 c.toNat
theorem amO (T : mB ad) (c : UInt8) (H : Heap) : aV ad (.fn 316 [] []) [bv c] H (.bool (lE c)) := T.letter H _ _ (Pb c)
theorem Yj (T : mB ad) (c : UInt8) (H : Heap) : aV ad (.fn 319 [] []) [bv c] H (.bool (ik c)) := T.digit H _ _ (Pc c)
theorem amP (T : mB ad) (c : UInt8) (H : Heap) : aV ad (.fn 318 [] []) [bv c] H (.bool (kV c)) := T.part H _ _ (amD c)
theorem amQ (T : mB ad) (c : UInt8) (H : Heap) : aV ad (.fn 321 [] []) [bv c] H (.bool (hN c)) := T.amI H _ _ (Yg c)
theorem amR (T : mB ad) (c : UInt8) (r : List UInt8) (H : Heap) : aV ad (.fn 322 [] []) [.str (c :: r)] H (.bool (ng (c :: r))) := T.Bc H _ _ (amH c r)
theorem amS (T : mB ad) (s : List UInt8) (H : Heap) : aV ad (.fn 320 [] []) [.str s] H (.int .i64 (sym s)) := T.symbol H _ _ (Yi s)
theorem amT (T : mB ad) {s : List UInt8} {H : Heap} (hl : s.length < 4611686018427387904) : aV ad (.fn 315 [] []) [.str s] H (.int .i64 (gy false s)) := T.skip H _ _ (amF s hl)
theorem Yk (T : mB ad) {s : List UInt8} {p : UInt8 -> Bool} {i : Nat} {H : Heap} (hl : s.length < 4611686018427387904) (ae : ∀ (c : UInt8) H, aV ad (.fn i [] []) [bv c] H (.bool (p c))) :
  aV ad (.fn 317 [] []) [.str s, .fn i [] []] H (.int .i64 (gN p s)) :=
 T.run H [] (Own.nil H) s (fun n => if 0 <= n /\ n < 256 then some (p (UInt8.ofNat n.toNat)) else none) (.fn i [] []) (fun H low => by simp [gl, eg, bO, ct]) (fun H' z q _ aP => by
   split at aP
   · rename_i h
     cases aP
     have := ae (UInt8.ofNat z.toNat) H'
     unfold aV bv at this
     have e : ((UInt8.ofNat z.toNat).toNat : Int) = z := by
      rw [UInt8.toNat_ofNat']; omega
     rw [e] at this
     exact this
   · cases aP) _ (Yh s hl fun c => by
   have h1 : c.toNat < 256 := c.toNat_lt
   rw [if_pos ⟨by omega, by omega⟩]
   simp)
def ze (l : List (List UInt8)) (k : Nat) : List (V × V) := (l.take k).foldl (fun e s => kH 1 (.str s) (.bool true) e) []
def va : List (V × V) := kw.map fun s => (V.str s, V.bool true)
theorem amU : ze kw 35 = va := by kernel_rfl
theorem amV (T : mB ad) (H : Heap) : cK ad (.fn 382 [] []) [.str G4] H = some (.list 1 (kw.map .str), H, H.length) := by
 obtain ⟨sp, h1, h2⟩ := T.aDA
 rw [sf, h1]
 simp [h2, ct, bO]
def strKeys (es : List (V × V)) : Prop := ∀ p ∈ es, ∃ t, p.1 = V.str t
theorem amW {es : List (V × V)} (h : strKeys es) (s : List UInt8) (v : V) : strKeys (kH 1 (.str s) v es) := by
 induction es with
 | nil => intro p hp; simp [kH] at hp; exact ⟨s, by rw [hp]⟩
 | cons q es ih =>
   obtain ⟨t, ht⟩ := h q (by simp)
   obtain ⟨a, b⟩ := q
   simp only at ht; subst ht
   simp only [kH, hX]
   split
   · intro p hp
     rcases dS.1 hp with rfl | hp
     · exact ⟨s, rfl⟩
     · exact h p (by simp [hp])
   · intro p hp
     rcases dS.1 hp with rfl | hp
     · exact ⟨t, rfl⟩
     · exact ih (fun p hp => h p (by simp [hp])) p hp
theorem amX {es : List (V × V)} (h : strKeys es) (s : List UInt8) : ∃ o, hv 1 (.str s) es = some o := by
 induction es with
 | nil => exact ⟨none, rfl⟩
 | cons q es ih =>
   obtain ⟨t, ht⟩ := h q (by simp)
   obtain ⟨a, b⟩ := q
   simp only at ht; subst ht
   obtain ⟨o, ho⟩ := ih (fun p hp => h p (by simp [hp]))
   simp only [hv, hX]
   cases (s == t) with
   | true => exact ⟨some b, rfl⟩
   | false => exact ⟨o, ho⟩
theorem amY (l : List (List UInt8)) (k : Nat) : strKeys (ze l k) := by
 unfold ze
 generalize l.take k = m
 have : ∀ (m : List (List UInt8)) e, strKeys e -> strKeys (m.foldl (fun e s => kH 1 (.str s) (.bool true) e) e) := by
  intro m
  induction m with
  | nil => intro e h; exact h
  | cons a m ih => intro e h; exact ih _ (amW h _ _)
 exact this m [] (fun p hp => by cases hp)
theorem amZ {l : List (List UInt8)} {k : Nat} {s : List UInt8} (h : l[k]? = some s) : ze l (k + 1) = kH 1 (.str s) (.bool true) (ze l k) := by
 unfold ze
 rw [wY, h]
 simp
theorem am0 (s : List UInt8) : hv 1 (.str s) va = some (if kw.contains s then some (.bool true) else none) := by
 unfold va
 generalize kw = l
 induction l with
 | nil => rfl
 | cons a l ih =>
   simp only [eD, hv, hX, List.contains_cons]
   cases asx : (s == a) with
   | true => rfl
   | false => simp [ih]
theorem E1 {H : Heap} {p : Nat} {o : cE} (h : H[p]? = some o) (t : Heap) : (H ++ t)[p]? = some o := by
 have hp : p < H.length := by
  rcases gg p H.length with h1 | h1
  · exact h1
  · rw [mF h1] at h; cases h
 rw [hq hp, h]
set_option maxHeartbeats 1000000 in
theorem am1 (T : mB ad) (H : Heap) : cK ad (.fn 313 [] []) [] H = some (.map H.length, H ++ [.map va], H.length) := by
 have key := ad4 (ad := ad) (b := 8) (n := 6) (i := 7) (t := 13) (blk := 1) (ex := 0) (body := PE)
  (I := fun k st => st.H = H ++ [.map (ze kw k)] /\ st.low = H.length /\ bJ st.aw 1 = .map H.length /\ bJ st.aw 5 = .list 1 (kw.map .str) /\ bJ st.aw 7 = .int .i64 k /\ bJ st.aw 6 = .int .i64 (35 : Nat))
  (Q := fun x st => st.H = H ++ [.map va] /\ st.low = H.length /\ x = .exit 0 /\ bJ st.aw 1 = .map H.length)
  (N := 35) (by decide) (by decide) (by decide)
  (fun k st h => ⟨h.2.2.2.2.1, h.2.2.2.2.2, by rw [h.1, h.2.1]; simp⟩)
  (by
    rintro k st ai ⟨h1, h2, av, bc, h5, gu⟩
    obtain ⟨w, hn⟩ : ∃ w, kw[k]? = some w := ⟨_, oV (by rw [MA]; exact ai)⟩
    have iz : xW 1 (V.list 1 (kw.map .str)) = true := rfl
    have bt : (el (V.list 1 (kw.map .str)))[k]? = some (.str w) := by simp [el, hn]
    have Je : aG (V.str w) = [V.str w] := rfl
    obtain ⟨o, ho⟩ := amX (amY kw k) w
    refine ⟨.normal, _, by simp [PE, jl, iP, jD, mH, oc, qa, qc, qb, nw, c9, gP, qv, oD, mn, pt, qx, sE, rq, qw, nb, rp, vW, aj.ag, bJ, fM, au.put, dY, o4, o3, fe, gl, eg, bO, ct, hZ, lP, finish, old, fc, flat, lZ, tk, jk, hJ, aG, S.R, S.q, S.k, S.rt, S.iD, S.cj, S.e, S.r, S.o, S.n, S.rg, S.m, S.b2, S.ls, S.di, S.eq, S.ne, S.lt, S.gt, S.df, S.no, S.jr, S.st, S.gI, S.ia, S.kr, S.ex, S.c, S.cs, S.jM, S.kq, S.z, S.fn, S.iU, h1, h2, av, bc, h5, gu, ad3, iz, bt, SW, step, ho, tr, -List.getElem?_map]; rfl, ?_⟩
    simp only [true_or, if_true, fM, h1, h2]
    refine ⟨by simp [h5], by simp, by simp [amZ hn], by simp, by simp [av], by simp [bc], by simp, by simp [gu]⟩)
  (by
    rintro st ⟨h1, h2, av, bc, h5, gu⟩
    exact ⟨by rw [h1, amU], h2, rfl, by simp [fM, av]⟩)
 obtain ⟨x, aU, h1, h2, av, rfl, bc⟩ := key 35 0 { aE := [], aw := [(0, .hU), (1, .map H.length), (5, .list 1 (kw.map .str)), (6, .int .i64 35), (7, .int .i64 0)], H := H ++ [.map []], low := H.length } (by omega)
  ⟨rfl, rfl, rfl, rfl, rfl, rfl⟩
 have hx := amV T (H ++ [.map []])
 simp only [G4] at hx
 have hlen : (el (V.list 1 (kw.map .str))).length = 35 := by simp [el, MA]
 have iz : xW 1 (V.list 1 (kw.map .str)) = true := rfl
 rw [sf, T.aDw]
 simp [ayX, jl, iP, jD, mH, oc, qa, qc, qb, nw, c9, gP, qv, oD, mn, pt, qx, sE, rq, qw, nb, rp, vW, aj.ag, bJ, fR, au.put, dY, o4, o3, fe, gl, eg, bO, ct, hZ, lP, finish, old, fc, flat, lZ, tk, jk, hJ, aG, S.R, S.q, S.k, S.rt, S.iD, S.cj, S.e, S.r, S.o, S.n, S.rg, S.m, S.b2, S.ls, S.di, S.eq, S.ne, S.lt, S.gt, S.df, S.no, S.jr, S.st, S.gI, S.ia, S.kr, S.ex, S.c, S.cs, S.jM, S.kq, S.z, S.fn, S.iU, SS, SY 1, iz, hlen, hx, h1, h2, av, bc, fM, fJ]
set_option maxHeartbeats 1000000 in
theorem am2 (T : mB ad) (s : List UInt8) (H : Heap) : cK ad (.fn 207 [] []) [.str s] H = some (.fn 314 [] [.ptr H.length 0, .ptr (H.length + 2) 0], H ++ [.cells [.str s], .map va, .cells [.map (H.length + 1)]], H.length) := by
 have ai := am1 T (H ++ [.cells [.str s]])
 simp only [kg, iv, qQ, eF, mb, oX, oZ] at ai
 rw [sf, T.aDy]
 simp [ayV, jl, iP, jD, mH, oc, qa, qc, qb, nw, c9, gP, qv, oD, mn, pt, qx, sE, rq, qw, nb, rp, vW, aj.ag, bJ, fR, au.put, dY, o4, o3, fe, gl, eg, bO, ct, hZ, lP, finish, old, fc, flat, lZ, tk, jk, hJ, aG, S.R, S.q, S.k, S.rt, S.iD, S.cj, S.e, S.r, S.o, S.n, S.rg, S.m, S.b2, S.ls, S.di, S.eq, S.ne, S.lt, S.gt, S.df, S.no, S.jr, S.st, S.gI, S.ia, S.kr, S.ex, S.c, S.cs, S.jM, S.kq, S.z, S.fn, S.iU, Md, b4, eP, ai, lB, iO, setCells, fJ]
end
end Go.Abs.U
namespace Go.Abs.U
open Go Go.Abs Go.Abs.Lex
noncomputable section
variable {ad : Nat -> Option ca}
attribute [local simp] jl iP jD mH oc qa qc qb nw c9 gP qv oD mn pt qx sE rq qw nb rp vW aj.ag bJ fM au.put dY o4 o3 fe gl eg bO ct hZ lP finish old fc flat lZ tk jk hJ aG S.R S.q S.k S.rt S.iD S.cj S.e S.r S.o S.n S.rg S.m S.b2 S.ls S.di S.eq S.ne S.lt S.gt S.df S.no S.jr S.st S.gI S.ia S.kr S.ex S.c S.cs S.jM S.kq S.z S.fn S.iU
set_option maxHeartbeats 1000000 in
theorem Yl (T : mB ad) {s : List UInt8} {H : Heap} {lo : Nat} (hl : s.length < 4611686018427387904) (fB : min lo H.length = lo) :
  ∀ (r : List UInt8) (k : Nat) (st : au), s.drop k = r -> k <= s.length -> st.H = H -> st.low = lo -> bJ st.aw 6 = .str s -> bJ st.aw 7 = .int .i64 k ->
    ∃ aU, dO ad (.loop yr) st = some (.exit 3, aU) /\ aU.H = H /\ aU.low = lo /\ bJ aU.aw 7 = .int .i64 ((k + kW r : Nat) : Int) /\ ∀ t, t < 7 -> bJ aU.aw t = bJ st.aw t
 | [], k, st, hr, ai, h1, h2, gu, lv => by
   have hle := drop_nil hr
   have hn : ¬ (k : Int) < (s.length : Int) := by omega
   rw [se]
   refine ⟨_, by simp [yr, rY, h1, h2, gu, lv, hn, fB]; rfl, ?_⟩
   simp only [fM, h1, h2, kW]
   exact ⟨by simp, by first | (simp [fB, lp]; done) | (simp [fB]; done) | (simp; omega) | omega, by simp [lv], fun t ht => by simp [show t ≠ 44 by omega]⟩
 | c :: r, k, st, hr, ai, h1, h2, gu, lv => by
   obtain ⟨g1, g2, g3⟩ := drop_cons hr
   have hn : (k : Int) < (s.length : Int) := by omega
   have hc := amQ T c H
   have Ym := amR T c r H
   unfold aV bv at hc
   unfold aV at Ym
   have hb : cK ad (.fn 322 [] []) [V.str (s.drop k)] H = some (.bool (ng (c :: r)), H, H.length) := by rw [hr]; exact Ym
   have bt : ∀ h : k < s.length, s[k]'h = c := fun h => by rw [oV h] at g1; exact Bz g1
   have tZ : k <= s.length := by omega
   have hw : IntKind.i64.wrap ((k : Int) + 1) = ((k + 1 : Nat) : Int) := by rw [wrap_small] <;> omega
   have s8 : ((c.toNat : Int) != 35) = !(c.toNat == 35) := by simp only [bne, show ((c.toNat : Int) == 35) = (c.toNat == 35) from nr c 35]
   by_cases Br : (hN c || c.toNat == 35 || ng (c :: r)) = true
   · have aP : kW (c :: r) = 0 := by simp only [kW, Br, if_true]
     rw [se, aP]
     cases hW : hN c with
     | true =>
       rw [hW] at hc
       refine ⟨_, by simp [yr, rY, u9, h1, h2, gu, lv, hn, bt, g3, hc, fB]; rfl, ?_⟩
       simp only [fM, h1, h2]
       exact ⟨by simp, by first | (simp [fB, lp]; done) | (simp [fB]; done) | (simp; omega) | omega, by simp [lv], fun t ht => by simp [show t ≠ 44 by omega]⟩
     | false =>
       rw [hW] at hc
       cases ns : (c.toNat == 35) with
       | true =>
         refine ⟨_, by simp [yr, rY, u9, h1, h2, gu, lv, hn, bt, g3, hc, s8, ns, fB]; rfl, ?_⟩
         simp only [fM, h1, h2]
         exact ⟨by simp, by first | (simp [fB, lp]; done) | (simp [fB]; done) | (simp; omega) | omega, by simp [lv], fun t ht => by simp [show t ≠ 44 by omega]⟩
       | false =>
         have am3 : ng (c :: r) = true := by simpa [hW, ns] using Br
         rw [am3] at hb
         refine ⟨_, by simp [yr, rY, u9, Bq, eG, tZ, h1, h2, gu, lv, hn, bt, g3, hc, hb, s8, ns, fB]; rfl, ?_⟩
         simp only [fM, h1, h2]
         exact ⟨by simp, by first | (simp [fB, lp]; done) | (simp [fB]; done) | (simp; omega) | omega, by simp [lv], fun t ht => by simp [show t ≠ 44 by omega]⟩
   · have aP : kW (c :: r) = kW r + 1 := by simp only [kW, Br, if_false]; simp
     have hW : hN c = false := by cases h : hN c <;> simp [h] at Br ⊢
     have ns : (c.toNat == 35) = false := by cases h : (c.toNat == 35) <;> simp [h] at Br ⊢
     have am4 : ng (c :: r) = false := by cases h : ng (c :: r) <;> simp [h] at Br ⊢
     rw [hW] at hc
     rw [am4] at hb
     have ER : ∃ bW, dO ad yr st = some (.normal, bW) /\ bW.H = H /\ bW.low = lo /\ bJ bW.aw 7 = .int .i64 ((k + 1 : Nat) : Int) /\ ∀ t, t < 7 -> bJ bW.aw t = bJ st.aw t := by
      refine ⟨_, by simp [yr, rY, u9, Bq, eG, tZ, h1, h2, gu, lv, hn, bt, g3, hc, hb, s8, ns, fB, hw]; rfl, ?_⟩
      simp only [fM, h1, h2]
      exact ⟨by simp, by first | (simp [fB, lp]; done) | (simp [fB]; done) | (simp; omega) | omega, by simp, fun t ht => by simp [show t ≠ 44 by omega, show t ≠ 7 by omega]⟩
     obtain ⟨bW, q1, aS, bZ, cR, e8⟩ := ER
     obtain ⟨aU, bG, ch, eL, gq, iB⟩ := Yl T hl fB r (k + 1) bW g2 (by omega) aS bZ (by rw [e8 6 (by decide)]; exact gu) cR
     refine ⟨aU, by rw [se, q1]; exact bG, ch, eL, ?_, fun t ht => (iB t ht).trans (e8 t ht)⟩
     rw [gq, aP]; simp; omega
set_option maxHeartbeats 2000000 in
theorem am5 (T : mB ad) {s : List UInt8} {H : Heap} {lo p2 m : Nat} {a b : Int} (hl : s.length < 4611686018427387904) (hK : lo <= H.length) (g2 : H[p2]? = some (.cells [.map m])) (Jq : H[m]? = some (.map va))
  {st : au} (h1 : st.H = H ++ [.cells [.int .i64 0, .int .i64 a, .int .i64 b, .int .i64 0]]) (h2 : st.low = lo) (jZ : bJ st.aw 2 = .ptr p2 0) (zf : bJ st.aw 5 = .ptr H.length 0) (wQ : bJ st.aw 6 = .str s) (qL : bJ st.aw 7 = .int .i64 0) :
  ∃ aU, dO ad yp st = some (.normal, aU) /\ aU.H = H ++ [.cells [.int .i64 (hO s), .int .i64 a, .int .i64 b, .int .i64 0]] /\ aU.low = lo /\ bJ aU.aw 7 = .int .i64 (ka s) /\ ∀ t, t < 7 -> bJ aU.aw t = bJ st.aw t := by
 have fB : min lo H.length = lo := nv hK
 have lp : min lo (H.length + 1) = lo := nv (by omega)
 have Pf := fun t => E1 g2 t
 have Pg := fun t => E1 Jq t
 cases s with
 | nil =>
   refine ⟨_, by simp [yp, h1, h2, jZ, zf, wQ, qL, fB, lp]; rfl, ?_⟩
   simp only [fM, h1, h2, hO, ka]
   exact ⟨by simp, by first | (simp [fB, lp]; done) | (simp [fB]; done) | (simp; omega) | omega, by simp [qL], fun t ht => by simp [show t ≠ 47 by omega]⟩
 | cons c r =>
   have bA : ((c :: r) == []) = false := rfl
   have dT := amO T c (H ++ [.cells [.int .i64 0, .int .i64 a, .int .i64 b, .int .i64 0]])
   have kQ := Yj T c (H ++ [.cells [.int .i64 0, .int .i64 a, .int .i64 b, .int .i64 0]])
   have aJ := amS T (c :: r) (H ++ [.cells [.int .i64 0, .int .i64 a, .int .i64 b, .int .i64 0]])
   have Jr := Yk T (s := c :: r) (p := kV) (i := 318) (H := H ++ [.cells [.int .i64 0, .int .i64 a, .int .i64 b, .int .i64 0]]) hl (fun c H => amP T c H)
   have Ph := Yk T (s := c :: r) (p := ik) (i := 319) (H := H ++ [.cells [.int .i64 0, .int .i64 a, .int .i64 b, .int .i64 0]]) hl (fun c H => Yj T c H)
   unfold aV bv at dT kQ
   unfold aV at aJ Jr Ph
   simp only [kg, iv, qQ, eF] at dT kQ aJ Jr Ph
   have ot := v8 kV (c :: r)
   have Js := am0 ((c :: r).take (gN kV (c :: r)))
   cases al : lE c with
   | true =>
     rw [al] at dT
     generalize hn : gN kV (c :: r) = n at *
     have Yn : n <= r.length + 1 := ot
     cases a2 : kw.contains ((c :: r).take n) with
     | true =>
       rw [a2] at Js
       have vb : hO (c :: r) = 2 := by simp only [hO, al, if_true, hn, a2]
       have el : ka (c :: r) = n := by simp only [ka, al, if_true, hn]
       rw [vb, el]
       refine ⟨_, by simp [yp, h1, h2, jZ, zf, wQ, qL, fB, lp, bA, u9, jW, dT, Jr, lB, nc, iO, b4, eP, setCells, Bq, eG, ot, Gz, step, Pf, Pg, Js, Yn, fJ, p7, vn, -List.take_succ_cons]; rfl, ?_⟩
       simp only [fM, h1, h2]
       exact ⟨by simp, by first | (simp [fB, lp]; done) | (simp; omega) | omega, by simp, fun t ht => by simp [show t ≠ 47 by omega, show t ≠ 50 by omega, show t ≠ 61 by omega, show t ≠ 7 by omega]⟩
     | false =>
       rw [a2] at Js
       have vb : hO (c :: r) = 1 := by simp only [hO, al, if_true, hn, a2]; rfl
       have el : ka (c :: r) = n := by simp only [ka, al, if_true, hn]
       rw [vb, el]
       refine ⟨_, by simp [yp, h1, h2, jZ, zf, wQ, qL, fB, lp, bA, u9, jW, dT, Jr, lB, nc, iO, b4, eP, setCells, Bq, eG, ot, Gz, step, Pf, Pg, Js, Yn, fJ, p7, vn, -List.take_succ_cons]; rfl, ?_⟩
       simp only [fM, h1, h2]
       exact ⟨by simp, by first | (simp [fB, lp]; done) | (simp; omega) | omega, by simp, fun t ht => by simp [show t ≠ 47 by omega, show t ≠ 50 by omega, show t ≠ 61 by omega, show t ≠ 7 by omega]⟩
   | false =>
     rw [al] at dT
     cases a2 : ik c with
     | true =>
       rw [a2] at kQ
       have vb : hO (c :: r) = 3 := by simp only [hO, al, a2, if_true]; rfl
       have el : ka (c :: r) = gN ik (c :: r) := by simp only [ka, al, a2, if_true]; rfl
       rw [vb, el]
       refine ⟨_, by simp [yp, h1, h2, jZ, zf, wQ, qL, fB, lp, bA, u9, jW, dT, kQ, Ph, lB, nc, iO, b4, eP, setCells]; rfl, ?_⟩
       simp only [fM, h1, h2]
       exact ⟨by simp, by first | (simp [fB, lp]; done) | (simp; omega) | omega, by simp, fun t ht => by simp [show t ≠ 47 by omega, show t ≠ 50 by omega, show t ≠ 63 by omega, show t ≠ 7 by omega]⟩
     | false =>
       rw [a2] at kQ
       by_cases a3 : 0 < sym (c :: r)
       · have vb : hO (c :: r) = 4 := by simp only [hO, al, a2, a3, if_true]; rfl
         have el : ka (c :: r) = sym (c :: r) := by simp only [ka, al, a2, a3, if_true]; rfl
         rw [vb, el]
         refine ⟨_, by simp [yp, h1, h2, jZ, zf, wQ, qL, fB, lp, bA, u9, jW, dT, kQ, aJ, a3, lB, nc, iO, b4, eP, setCells]; rfl, ?_⟩
         simp only [fM, h1, h2]
         exact ⟨by simp, by first | (simp [fB, lp]; done) | (simp; omega) | omega, by simp, fun t ht => by simp [show t ≠ 47 by omega, show t ≠ 50 by omega, show t ≠ 63 by omega, show t ≠ 70 by omega, show t ≠ 7 by omega]⟩
       · have vb : hO (c :: r) = 5 := by simp only [hO, al, a2, a3, if_false]; rfl
         have el : ka (c :: r) = kW r + 1 := by simp only [ka, al, a2, a3, if_false]; rfl
         rw [vb, el]
         obtain ⟨bW, q1, aS, bZ, cR, e8⟩ := Yl T (s := c :: r) (H := H ++ [.cells [.int .i64 5, .int .i64 a, .int .i64 b, .int .i64 0]]) (lo := lo) hl (by simp; omega) r 1
          { aE := [], aw := fR (fR (fR (fR (fR st.aw 47 (.bool false)) 50 (.bool false)) 63 (.bool false)) 70 (.bool false)) 7 (.int .i64 1), H := H ++ [.cells [.int .i64 5, .int .i64 a, .int .i64 b, .int .i64 0]], low := lo, ro := st.ro } rfl (by simp) rfl rfl (by simp [fM, wQ]) (by simp [fM])
         refine ⟨bW, by simp [yp, h1, h2, jZ, zf, wQ, qL, fB, lp, bA, u9, jW, dT, kQ, aJ, a3, lB, nc, iO, b4, eP, setCells, q1], aS, bZ, ?_, fun t ht => ?_⟩
         · rw [cR]; simp; omega
         · rw [e8 t ht]; simp [fM, show t ≠ 47 by omega, show t ≠ 50 by omega, show t ≠ 63 by omega, show t ≠ 70 by omega, show t ≠ 7 by omega]
end
end Go.Abs.U
