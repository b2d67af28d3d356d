/- Texts of this claim, joined and written short by a program. -/
import Derived.Test.YtjgngmpmjbkbpaaGreatDoorP38
import Derived.Test.YtjgngmpmjbkbpaaGreatDoorP37
import Derived.Test.YtjgngmpmjbkbpaaGreatDoorP00
set_option linter.unusedVariables false
set_option linter.unusedSimpArgs false
set_option linter.unusedSectionVars false
namespace Go.Abs.U
open Go Go.Abs
noncomputable section
def s6 (s : List Int) (args : List Int) (k : Nat) (hS : Int) : Bool := bif decide (hS < 0) then nq (args.getD k 0) 9999 else decide (args.getD k 0 >= 0) && decide (args.getD k 0 < fO s hS)
def za (s7 : List Action) (k : Nat) (a : Action) : Bool := match k with
 | 0 => true
 | k + 1 => match s7[k]? with
   | some b => !(decide (b.cG > a.cG)) && (bif b.cG == a.cG then lM b.dz.l a.dz.l else true)
   | none => true
def u5 (s : List Int) (ts : List Table) (n : Int) (ops : List cG) (s7 : List Action) (k : Nat) (a : Action) : Bool :=
 (decide (a.cG >= 0) && decide (a.cG < ops.length)) && match ops[a.cG.toNat]? with
   | some o => (a.dz.l.length == o.aO.l.length) && (allI (s6 s a.dz.l) o.aO.l && (za s7 k a && y8 s ts n a.dM))
   | none => false
def zb (s : List Int) (ts : List Table) (n : Int) (ops : List cG) (s7 : List Action) : Bool := decide (s7.length <= 256) && allI (u5 s ts n ops s7) s7
structure OQ (x : dM) : Prop where
 d : bl x.Delta.l
 u : bl x.er.l
 h : bl x.fC.l
 r : ∀ r ∈ x.fC.l, bl r.cY.l
theorem XW {α β : Type} (x : ak α) (y : ak β) : (x.len != y.len) = !(x.l.length == y.l.length) := by
 unfold bne
 congr 1
 rw [dF, dF, BA]
 simp; omega
theorem u6 {α : Type} {l : List α} {i : Int} (h : 0 <= i) : aR l i = l[i.toNat]? := by simp [aR, h]
theorem XX {s : List Int} {o : cG} {a : Action} {f : Int -> Option (cM Int (bK Unit Unit))} (hl : bl o.aO.l)
  (ae : ∀ (k : Nat) (hS : Int), o.aO.l[k]? = some hS -> f (k : Int) = bif s6 s a.dz.l k hS then some (.next (aQ ((k : Int) + 1))) else some (.out (.ret ()))) (he : f (o.aO.l.length : Int) = some (.out (.go ()))) :
  bU f 0 = some (bif allI (s6 s a.dz.l) o.aO.l then .go () else .ret ()) :=
 oR (f := f) (fun k s => s = (k : Int)) (s6 s a.dz.l) o.aO.l (fun k hS st hx aZ _ => by
  subst aZ
  rw [ae k hS hx]
  constructor
  · intro bd
    rw [bd, ep (by have := eI hx; unfold bl at hl; omega)]
    exact ⟨_, rfl, rfl⟩
  · intro bd; rw [bd]; rfl) (fun st aZ => by subst aZ; exact he) (s := 0) rfl
theorem Bl {l : List Int} {k : Nat} {x : Int} (h : l[k]? = some x) : l.getD k 0 = x := by simp [Bu, h]
theorem XY {n : Nat} {o : cG} (h : lL n o = true) {hS : Int} (hs : hS ∈ o.aO.l) : -1 <= hS /\ hS < n := by
 unfold lL at h
 simp only [cd, fo] at h
 have := h.2 hS hs
 unfold wJ at this
 simp only [cd, decide_eq_true_eq] at this
 exact ⟨by omega, this.2⟩
theorem alF {j : dJ} {o : cG} {a : Action} (ho : lL j.Model.aO.l.length o = true) (hl : bl o.aO.l) (hlen : a.dz.l.length = o.aO.l.length) :
  bU (HC j a o) 0 = some (bif allI (s6 j.Model.aO.l a.dz.l) o.aO.l then .go () else .ret ()) :=
 XX hl (fun k hS hx => by
  have aH := eI hx
  have hy : a.dz.l[k]? = some a.dz.l[k] := by simp [hlen, aH]
  obtain ⟨q1, aS⟩ := XY ho (fm hx)
  simp only [HC, fj aH, cond_true, c5, hx, hy, aW, Jg _ 9999 (by omega), l4]
  unfold s6
  rw [Bl hy]
  by_cases h0 : hS < 0
  · have d0 : decide (hS < 0) = true := by simpa using h0
    have d1 : decide (hS >= 0) = false := by simp; omega
    rw [d0, d1]
    simp only [cond_true, cond_false]
    cases nq a.dz.l[k] 9999 <;> rfl
  · have d0 : decide (hS < 0) = false := by simpa using h0
    have d1 : decide (hS >= 0) = true := by simp; omega
    rw [d0, d1, yY (by omega) aS]
    simp only [cond_true, cond_false, aW]
    cases (decide (a.dz.l[k] >= 0) && decide (a.dz.l[k] < fO j.Model.aO.l hS)) <;> rfl) (by simp only [HC, fP, cond_false])
theorem alH (j : dJ) (h1 : bl j.Model.aO.l) (h2 : bl j.Model.Tables.l) (hc : ∀ t ∈ j.Model.Tables.l, bl t.aX.l) (af : ji j.Model.aO.l j.Model.Tables.l = true)
  (ho : ∀ o ∈ j.Model.Operations.l, lL j.Model.aO.l.length o = true) (Jl : ∀ o ∈ j.Model.Operations.l, bl o.aO.l) (dw : ∀ a ∈ j.Model.Actions.l, OQ a.dM) (hA : ∀ a ∈ j.Model.Actions.l, bl a.dz.l) (dT : bl j.Model.Actions.l) :
  HD j = some (zb j.Model.aO.l j.Model.Tables.l j.strict.len j.Model.Operations.l j.Model.Actions.l) := by
 unfold HD zb
 rw [show decide (j.Model.Actions.len > 256) = !decide (j.Model.Actions.l.length <= 256) from jz j.Model.Actions 256]
 cases decide (j.Model.Actions.l.length <= 256) with
 | false => rfl
 | true =>
   simp only [fQ, cond_false, dt]
   rw [oR (f := Dq j) (fun k s => s = (k : Int)) (u5 j.Model.aO.l j.Model.Tables.l j.strict.len j.Model.Operations.l j.Model.Actions.l) j.Model.Actions.l (fun k a st hx aZ _ => by
    subst aZ
    have aH := eI hx
    have dn := fm hx
    have ae : Dq j (k : Int) = bif u5 j.Model.aO.l j.Model.Tables.l j.strict.len j.Model.Operations.l j.Model.Actions.l k a then some (.next (aQ ((k : Int) + 1))) else some (.out (.ret ())) := by
     simp only [Dq, fj aH, cond_true, c5, hx, aW, l4]
     unfold u5
     have om : decide (a.cG < j.Model.Operations.len) = decide (a.cG < (j.Model.Operations.l.length : Int)) := rfl
     rw [om]
     cases hin : (decide (a.cG >= 0) && decide (a.cG < (j.Model.Operations.l.length : Int))) with
     | false => rfl
     | true =>
       simp only [cd, decide_eq_true_eq] at hin
       have hK : a.cG.toNat < j.Model.Operations.l.length := by omega
       have cV : j.Model.Operations.l[a.cG.toNat]? = some j.Model.Operations.l[a.cG.toNat] := by simp [hK]
       have ET := fm cV
       simp only [cond_true, u6 hin.1, cV, aW, XW, dt]
       cases hlen : a.dz.l.length == (j.Model.Operations.l[a.cG.toNat]).aO.l.length with
       | false => rfl
       | true =>
         simp only [fQ, cond_false, dt]
         rw [alF (ho _ ET) (Jl _ ET) (by simpa using hlen)]
         simp only [aW]
         cases allI (s6 j.Model.aO.l a.dz.l) (j.Model.Operations.l[a.cG.toNat]).aO.l with
         | false => rfl
         | true =>
           simp only [cond_true, dt]
           have lz := dw a dn
           rw [aly j a.dM h1 h2 hc af lz.d lz.u lz.h lz.r]
           have lW : ((bif (decide ((k : Int) > 0)) then ((aR j.Model.Actions.l (aQ ((k : Int) - 1))).bind fun atd => (((bif (decide (atd.cG > a.cG)) then some true else (bif (atd.cG == a.cG) then ((Di atd.dz a.dz).bind fun Dr => some (decide (Dr >= 0))) else some false)) : Option (Bool)).bind fun M0 => (bif M0 then some (.ret ()) else some (.go ())))) else some (.go ())) : Option (bK (Unit) (Unit))) = some (bif za j.Model.Actions.l k a then .go () else .ret ()) := by
            cases k with
            | zero => rfl
            | succ k =>
              have ai : k < j.Model.Actions.l.length := by omega
              have aP : j.Model.Actions.l[k]? = some j.Model.Actions.l[k] := by simp [ai]
              have rU : decide ((((k + 1 : Nat)) : Int) > 0) = true := decide_eq_true (by omega)
              have hw : aQ (((k + 1 : Nat) : Int) - 1) = (k : Int) := Bj (by unfold bl at dT; omega)
              obtain ⟨c, BQ, alI⟩ := alD j.Model.Actions.l[k].dz a.dz (hA _ (JQ ai))
              rw [rU, hw]
              unfold za
              simp only [cond_true, c5, aP, aW, BQ, alI]
              cases decide (j.Model.Actions.l[k].cG > a.cG) with
              | true => rfl
              | false =>
                cases j.Model.Actions.l[k].cG == a.cG with
                | false => rfl
                | true => cases lM j.Model.Actions.l[k].dz.l a.dz.l <;> rfl
           rw [lW]
           simp only [aW]
           cases za j.Model.Actions.l k a with
           | false => rfl
           | true => cases y8 j.Model.aO.l j.Model.Tables.l j.strict.len a.dM <;> rfl
    rw [ae]
    constructor
    · intro bd
      rw [bd, ep (by unfold bl at dT; omega)]
      exact ⟨_, rfl, rfl⟩
    · intro bd; rw [bd]; rfl) (fun st aZ => by subst aZ; simp only [Dq, fP, cond_false]) (s := 0) rfl]
   cases allI (u5 j.Model.aO.l j.Model.Tables.l j.strict.len j.Model.Operations.l j.Model.Actions.l) j.Model.Actions.l <;> rfl
end
end Go.Abs.U
namespace Go.Abs.U
open Go Go.Abs
noncomputable section
end
end Go.Abs.U
namespace Go.Abs.U
open Go Go.Abs
noncomputable section
theorem alS {ts : ak Table} {h : fN} : (((l4 h.Table ts.len).bind fun kX => (bif kX then ((l4 h.bS ts.len).bind fun nh => (bif nh then some (h.Table == h.bS) else some true)) else some true)) : Option Bool) = some (!((decide (h.Table >= 0) && decide (h.Table < ts.l.length)) && ((decide (h.bS >= 0) && decide (h.bS < ts.l.length)) && !(h.Table == h.bS)))) := by
 unfold l4
 rw [dF]
 cases (decide (h.Table >= 0) && decide (h.Table < (ts.l.length : Int))) with
 | false => rfl
 | true =>
   cases (decide (h.bS >= 0) && decide (h.bS < (ts.l.length : Int))) with
   | false => rfl
   | true => cases h.Table == h.bS <;> rfl
theorem alT (j : dJ) {k : Nat} {h : fN} (hx : j.Model.bn.l[k]? = some h) : yU j (k : Int) = some (bif !oJ j.Model.Tables.l h then .out (.ret ()) else .next (aQ ((k : Int) + 1))) := by
 simp only [yU, fj (eI hx), cond_true, c5, hx, aW]
 rw [alS]
 unfold oJ
 cases a : (decide (h.Table >= 0) && decide (h.Table < (j.Model.Tables.l.length : Int))) with
 | false => rfl
 | true =>
   cases b : (decide (h.bS >= 0) && decide (h.bS < (j.Model.Tables.l.length : Int))) with
   | false => rfl
   | true =>
     cases h.Table == h.bS with
     | true => rfl
     | false =>
       simp only [cd, decide_eq_true_eq] at a b
       have dL : h.Table.toNat < j.Model.Tables.l.length := by omega
       have e7 : h.bS.toNat < j.Model.Tables.l.length := by omega
       have g1 : j.Model.Tables.l[h.Table.toNat]? = some j.Model.Tables.l[h.Table.toNat] := by simp [dL]
       have g2 : j.Model.Tables.l[h.bS.toNat]? = some j.Model.Tables.l[h.bS.toNat] := by simp [e7]
       simp only [o0, zq, dt, fQ, aW, cond_false, u6 a.1, u6 b.1, g1, g2, bne, l4]
       cases j.Model.Tables.l[h.Table.toNat].Kind == 0 with
       | false => rfl
       | true =>
         cases j.Model.Tables.l[h.bS.toNat].Kind == 0 with
         | false => rfl
         | true =>
           rw [dF j.Model.Tables.l[h.Table.toNat].aX, show (j.Model.Tables.l[h.bS.toNat].aX.len == 1) = (j.Model.Tables.l[h.bS.toNat].aX.l.length == 1) from EP _ 1]
           cases d : (decide (h.fi >= 0) && decide (h.fi < (j.Model.Tables.l[h.Table.toNat].aX.l.length : Int))) with
           | false => rfl
           | true =>
             cases d3 : j.Model.Tables.l[h.bS.toNat].aX.l.length == 1 with
             | false => rfl
             | true =>
               simp only [cd, decide_eq_true_eq] at d
               have b5 : j.Model.Tables.l[h.bS.toNat].aX.l.length = 1 := by simpa using d3
               have f1 : h.fi.toNat < j.Model.Tables.l[h.Table.toNat].aX.l.length := by omega
               have cn : j.Model.Tables.l[h.Table.toNat].aX.l[h.fi.toNat]? = some j.Model.Tables.l[h.Table.toNat].aX.l[h.fi.toNat] := by simp [f1]
               have f2 : 0 < j.Model.Tables.l[h.bS.toNat].aX.l.length := by omega
               have dZ : j.Model.Tables.l[h.bS.toNat].aX.l[0]? = some j.Model.Tables.l[h.bS.toNat].aX.l[0] := by simp [f2]
               simp only [fQ, o0, cond_true, cond_false, u6 d.1, Ox, cn, dZ, aW, dt, Bl cn, Bl dZ]
               cases j.Model.Tables.l[h.bS.toNat].aX.l[0] == j.Model.Tables.l[h.Table.toNat].aX.l[h.fi.toNat] <;> rfl
theorem alU (j : dJ) : I6 j = some (decide (j.Model.bn.l.length <= 12) && j.Model.bn.l.all (oJ j.Model.Tables.l)) := by
 unfold I6
 rw [show decide (j.Model.bn.len > 12) = !decide (j.Model.bn.l.length <= 12) from jz j.Model.bn 12]
 cases h : decide (j.Model.bn.l.length <= 12) with
 | false => rfl
 | true =>
   have hl : j.Model.bn.l.length <= 12 := by simpa using h
   simp only [fQ, cond_false, dt]
   rw [mA (f := yU j) j.Model.bn.l (by omega) (fun h => !oJ j.Model.Tables.l h) (fun k h hx => alT j hx) (by simp only [yU, fP, cond_false])]
   rw [nt]
   cases j.Model.bn.l.any (fun h => !oJ j.Model.Tables.l h) <;> rfl
def cB (ks : List Int) : List (Int × Bool) := ks.map fun t => (t, true)
def wL (ks : List Int) (t : Int) : List Int := if t ∈ ks then ks else ks ++ [t]
theorem XZ (t : Int) : ∀ ks, lC (cB ks) t true = cB (wL ks t)
 | [] => rfl
 | k :: ks => by
   have ih := XZ t ks
   unfold cB wL at *
   simp only [eD, lC]
   by_cases e : t = k
   · subst e; simp
   · have ah : (t == k) = false := by simp [e]
     rw [ah]
     simp only [gX, if_false, ih, dS, e, false_or]
     by_cases h : t ∈ ks <;> simp [h]
theorem X0 (t : Int) : ∀ ks, (ie (cB ks) t).getD false = decide (t ∈ ks)
 | [] => rfl
 | k :: ks => by
   have ih := X0 t ks
   unfold cB ie at *
   simp only [eD, JR]
   by_cases e : t = k
   · subst e; simp
   · have ah : (t == k) = false := by simp [e]
     rw [ah]
     simp only [ih, dS, e, false_or]
theorem OS (t : Int) : ∀ ks, hY 0 (aI t) (ga aI V.bool (cB ks)) = ga aI V.bool (cB (ks.erase t))
 | [] => rfl
 | k :: ks => by
   have ih := OS t ks
   simp only [cB, ga] at ih ⊢
   simp only [eD, hY, CW, aA, beq_iff_eq, List.erase_cons]
   by_cases e : t = k
   · subst e; simp
   · rw [if_neg e, if_neg (fun h => e h.symm), ih]; rfl
theorem alV {ks : List Int} (h : ks.Nodup) (t : Int) : (wL ks t).Nodup := by
 unfold wL
 split
 · exact h
 · rename_i hn
   exact Fe.2 ⟨h, by simp, fun x hx y hy => by
    simp only [dS, w0, or_false] at hy
    subst hy
    exact fun q => hn (q ▸ hx)⟩
theorem alW {ks : List Int} {t x : Int} : x ∈ wL ks t ↔ x ∈ ks \/ x = t := by
 unfold wL
 split
 · rename_i h; exact ⟨.inl, fun q => q.elim id fun e => e ▸ h⟩
 · simp
def wM (hs : List fN) (ks : List Int) : List Int := hs.foldl (fun ks h => wL ks h.Table) ks
theorem X1 : ∀ (hs : List fN) {ks : List Int}, ks.Nodup -> (wM hs ks).Nodup
 | [], _, h => h
 | _ :: hs, _, h => X1 hs (alV h _)
theorem X2 : ∀ (hs : List fN) {ks : List Int} {t : Int}, t ∈ wM hs ks ↔ t ∈ ks \/ ∃ h ∈ hs, h.Table = t
 | [], ks, t => by simp [wM]
 | h :: hs, ks, t => by
   have := X2 hs (ks := wL ks h.Table) (t := t)
   unfold wM at this ⊢
   rw [vi, this, alW]
   simp only [dS, exists_eq_or_imp, or_assoc, eq_comm (a := t)]
theorem alX (j : dJ) (hl : j.Model.bn.l.length <= 12) : bU (yV j) (0, []) = some (cB (wM j.Model.bn.l [])) := by
 have key : ∀ (n k : Nat) (ks : List Int), k + n = j.Model.bn.l.length -> bU (yV j) ((k : Int), cB ks) = some (cB (wM (j.Model.bn.l.drop k) ks)) := by
  intro n
  induction n with
  | zero =>
    intro k ks ai
    have e : k = j.Model.bn.l.length := by omega
    rw [kt]
    subst e
    simp only [yV, fP, cond_false, List.drop_length]; rfl
  | succ n ih =>
    intro k ks ai
    have aH : k < j.Model.bn.l.length := by omega
    have hx : j.Model.bn.l[k]? = some j.Model.bn.l[k] := by simp [aH]
    rw [kt]
    simp only [yV, fj aH, cond_true, c5, hx, aW, XZ]
    rw [ep (by omega), ih (k + 1) _ (by omega), oU aH]
    rfl
 exact key j.Model.bn.l.length 0 [] (by omega)
theorem alY (j : dJ) (hl : j.Model.bn.l.length <= 12) (t : Int) (ks : List Int) :
  DX j.Model.bn (fun h => some ((h.Table == t) && (ie (cB ks) h.bS).getD false)) = some (j.Model.bn.l.any fun h => (h.Table == t) && decide (h.bS ∈ ks)) := by
 exact EJ j.Model.bn (by omega) (fun h _ => by rw [X0])
end
end Go.Abs.U
namespace Go.Abs.U
open Go Go.Abs
noncomputable section
structure pU (hs : List fN) (ks : List Int) (d : List V) (k : List Int) : Prop where
 dE : k.Nodup
 sub : ∀ t ∈ k, t ∈ ks
 next : ∀ t ∈ k, aI t ∈ d -> ∃ h ∈ hs, h.Table = t /\ h.bS ∈ ks
 ei : ∀ K : Int -> Prop, (∀ t, K t -> t ∈ ks) -> (∀ t, K t -> ∃ h ∈ hs, h.Table = t /\ K h.bS) -> ∀ t, K t -> t ∈ k
theorem pU.start {hs : List fN} {ks : List Int} (h : ks.Nodup) : pU hs ks [] ks := ⟨h, fun _ h => h, fun t _ h => (by cases h), fun _ h _ => h⟩
theorem pU.stay {hs : List fN} {ks k : List Int} {d : List V} (h : pU hs ks d k) {t : Int} (bD : (hs.any fun h => (h.Table == t) && decide (h.bS ∈ k)) = true) : pU hs ks (d ++ [aI t]) k := by
 refine ⟨h.dE, h.sub, fun u hu hd => ?_, h.ei⟩
 rcases jV.1 hd with hd | hd
 · exact h.next u hu hd
 · simp only [dS, w0, or_false, V.int.injEq, true_and] at hd
   subst hd
   obtain ⟨x, hx, h1⟩ := tg.1 bD
   simp only [cd, beq_iff_eq, decide_eq_true_eq] at h1
   exact ⟨x, hx, h1.1, h.sub _ h1.2⟩
theorem pU.gone {hs : List fN} {ks k : List Int} {d : List V} (h : pU hs ks d k) {t : Int} (bD : (hs.any fun h => (h.Table == t) && decide (h.bS ∈ k)) = false) : pU hs ks (d ++ [aI t]) (k.erase t) := by
 refine ⟨h.dE.erase t, fun u hu => h.sub u (List.mem_of_mem_erase hu), fun u hu hd => ?_, fun K h1 h2 u hu => ?_⟩
 · have OT : u ≠ t := fun e => by subst e; exact (List.Nodup.not_mem_erase h.dE) hu
   rcases jV.1 hd with hd | hd
   · exact h.next u (List.mem_of_mem_erase hu) hd
   · simp only [dS, w0, or_false, V.int.injEq, true_and] at hd
     exact absurd hd OT
 · have ai := h.ei K h1 h2
   have OT : u ≠ t := fun e => by
    subst e
    obtain ⟨x, hx, ah, e2⟩ := h2 u hu
    have := List.any_eq_false.1 bD x hx
    simp [ah, ai _ e2] at this
   exact (List.mem_erase_of_ne OT).2 (ai u hu)
theorem pU.fin {hs : List fN} {ks k : List Int} {d : List V} (h : pU hs ks d k) (ao : ∀ t ∈ k, aI t ∈ d) : C4 hs ks k := ⟨h.sub, h.dE, fun t ht => h.next t ht (ao t ht), h.ei⟩
variable {C : Ctx} {fid : Nat -> Nat} {vars : List Nat} {N : Nat} {ad : Nat -> Option ca}
structure rW (j : dJ) (al ew l : Nat) (ts : List Nat) (vs : List V) (ks : List Int) (b : Nat) (s : au) : Prop where
 aE : s.aE = []
 ro : s.ro = none
 ok : ∃ σ, Fits s.aw σ /\ At σ (1 :: 7 :: ts) (.ptr al 0 :: .ptr ew 0 :: vs)
 own : Own s.H [[(ew, .cells [.map l])], [(l, .map (ga aI V.bool (cB ks)))], [(al, .cells (jg j))]]
 len : b <= s.H.length
theorem Bm {s : au} (h1 : s.aE = []) (h2 : s.ro = none) : s = ⟨[], s.aw, s.H, s.low, none⟩ := by cases s; simp_all
theorem alZ (ym : ad 197 = some (.code DC)) (mV : yQ ad) {j : dJ} (hl : j.Model.bn.l.length <= 12) {al ew l li : Nat} {ts : List Nat} {vs : List V} {ks k : List Int} {d : List V} {s : au} (ht : ∀ t ∈ ts, t ≠ 10 /\ t ≠ 122 /\ t ≠ 130) (asm : l < li)
  (hs : rW j al ew l (120 :: ts) (.ptr li 0 :: vs) k (li + 1) s) (hp : pU j.Model.bn.l ks d k) {kv : V × V} (kP : kv ∈ ga aI V.bool (cB k)) :
  Of aa kQ ad l li (ga aI V.bool (cB k)) kv s fun bC ar => ∃ bs, bC = ga aI V.bool (cB bs) /\ rW j al ew l (120 :: ts) (.ptr li 0 :: vs) bs (li + 1) ar /\ pU j.Model.bn.l ks (d ++ [kv.1]) bs := by
 obtain ⟨t, EU, rfl⟩ : ∃ t ∈ k, kv = (aI t, .bool true) := by
  unfold ga cB at kP
  rw [qR] at kP
  obtain ⟨t, h1, h2⟩ := ey.1 kP
  exact ⟨t, h1, h2.symm⟩
 obtain ⟨EV, EW, ⟨σ, ae, hB⟩, aD, hlen⟩ := hs
 rw [Bm EV EW]
 have g1 : σ 1 = .ptr al 0 := (et hB).1
 have g7 : σ 7 = .ptr ew 0 := (et (et hB).2).1
 have OU : σ 120 = .ptr li 0 := (et (et (et hB).2).2).1
 have OV : ts.map σ = vs := (et (et (et hB).2).2).2
 obtain ⟨Aq, H2, dv, kT, q1, aS, bZ, cR, mz, e8, hC, nM⟩ := aj7 (ad := ad) (R := aa) (b := li + 1) (kv := (aI t, .bool true)) (σ := σ) (H := s.H) (li := li) (low := s.low)
  (Q := fun a7 H' => ∃ mz, a7 10 = .ptr mz 0 /\ (∀ x, x ≠ 10 -> x ≠ 122 -> a7 x = σ x) /\ Own H' [[(mz, .cells [aI t])], [(ew, .cells [.map l])], [(l, .map (ga aI V.bool (cB k)))], [(al, .cells (jg j))]])
  OU (pp (.bool true) <| fZ ⟨rfl, by
   show up σ 122 (.bool true) 120 = _
   rw [iE _ _ (by decide)]; exact OU, pp (aI t) <| x4 rfl aD fun H' mz hb sK => x5 (vs := [aI t]) (cs' := [aI t]) rfl sK 0 rfl hb rfl rfl ⟨rfl, aK _⟩ (by simp [b4]) rfl fun Fo al0 => fZ ⟨mz, rfl, fun x hx W4 => by
    show up (up σ 122 (.bool true)) 10 (.ptr mz 0) x = _
    rw [iE _ _ hx, iE _ _ W4], al0⟩⟩) ae hlen
 have al1 := alY j hl t k
 obtain ⟨dd, wN, rR, Jm, rX, bG, ch, eL, gq, rfl, rfl, rfl⟩ := akI (ad := ad) (b := li + 1) (σ := kT) (H := H2) ym mV (ts := []) (vs := []) nM (by
  show [kT 1, kT 7, kT 10] = _
  rw [hC 1 (by decide) (by decide), hC 7 (by decide) (by decide), e8, g1, g7]) al1 Aq dv aS bZ cR
 refine ⟨_, _, q1, bG, eL, ?_⟩
 have u7 : ∀ (a7 : cb), (∀ x, x ≠ 10 -> x ≠ 122 -> x ≠ 130 -> a7 x = σ x) -> At a7 (1 :: 7 :: 120 :: ts) (.ptr al 0 :: .ptr ew 0 :: .ptr li 0 :: vs) := fun a7 h => by
  show _ :: _ :: _ :: List.map a7 ts = _
  rw [h 1 (by decide) (by decide) (by decide), h 7 (by decide) (by decide) (by decide), h 120 (by decide) (by decide) (by decide), g1, g7, OU, <- OV]
  congr 3
  exact pX fun x hx => h x (ht x hx).1 (ht x hx).2.1 (ht x hx).2.2
 have zV : (bJ wN 130) = .bool (!(j.Model.bn.l.any fun h => (h.Table == t) && decide (h.bS ∈ k))) := by rw [ch, uB]
 cases hc : (j.Model.bn.l.any fun h => (h.Table == t) && decide (h.bS ∈ k)) with
 | true =>
   refine .inl ⟨?_, k, rfl, ⟨rfl, rfl, ⟨_, ch, u7 _ fun x h1 h2 av => ?_⟩, nM.drop 0, cR⟩, hp.stay hc⟩
   · show bJ wN 130 = _
     rw [zV, hc]; rfl
   · rw [iE _ _ av, hC x h1 h2]
 | false =>
   have v7 : bJ wN 7 = .ptr ew 0 := by rw [ch, iE _ _ (by decide), hC 7 (by decide) (by decide), g7]
   have al2 : bJ wN 10 = .ptr mz 0 := by rw [ch, iE _ _ (by decide), e8]
   have f7 := nM.get 1 rfl
   have f10 := nM.get 0 rfl
   have a8 := nM.get 2 rfl
   have hex : c9 (cK ad) I7 ⟨[], wN, rR, Jm, none⟩ [] = some (⟨[(132, aI t), (131, .map l)], wN, rR, min (min Jm rR.length) rR.length, none⟩, [false, false]) := by
    simp [I7, c9, gP, nb, jk, hJ, aj.ag, v7, al2, f7, f10, au.put, lZ]
   refine .inr ⟨?_, _, _, _, hex, by show li < min (min Jm rR.length) rR.length; omega, rfl, CX (gb := V.bool) CW t (cB k), k.erase t, OS t k, ⟨rfl, rfl, ⟨_, ch, u7 _ fun x h1 h2 av => ?_⟩, ?_, ?_⟩, hp.gone hc⟩
   · show bJ wN 130 = _
     rw [zV, hc]; rfl
   · rw [iE _ _ av, hC x h1 h2]
   · have := nM.put 2 (a := l) (o := .map (ga aI V.bool (cB k))) (o' := .map (ga aI V.bool (cB (k.erase t)))) rfl
     have h2 := this.drop 0
     show Own (rR.set l (.map (hY 0 (aI t) (ga aI V.bool (cB k))))) _
     rw [OS]; exact h2
   · show li + 1 <= (rR.set l _).length
     rw [zo]; exact cR
theorem al3 (cC : C.P.follows .mixedOrders = true) (bx : eR C fid) (bj : gx C fid (cK ad)) {qK : Code} (hr : xU C vars N qK = some aa) (hd : Be C vars N (I5 qK) = some kQ) (ym : ad 197 = some (.code DC)) (mV : yQ ad)
  {j : dJ} (hl : j.Model.bn.l.length <= 12) {al ew l : Nat} {ts : List Nat} {vs : List V} {ks : List Int} {s : au} (hnd : ks.Nodup) (ht : ∀ t ∈ ts, t ≠ 10 /\ t ≠ 122 /\ t ≠ 130 /\ t ≠ 120) (hs : rW j al ew l ts vs ks 0 s) :
  c1 C fid vars N qK s fun x ar => x = .normal /\ ∃ bs, C4 j.Model.bn.l ks bs /\ rW j al ew l ts vs bs 0 ar := by
 obtain ⟨EV, EW, ⟨σ, ae, hB⟩, aD, hlen⟩ := hs
 have g1 : σ 1 = .ptr al 0 := (et hB).1
 have g7 : σ 7 = .ptr ew 0 := (et (et hB).2).1
 have OV : ts.map σ = vs := (et (et hB).2).2
 have f7 := aD.get 0 rfl
 have a8 := aD.get 1 rfl
 have iZ := x2 a8
 rw [Bm EV EW]
 have v7 : bJ s.aw 7 = .ptr ew 0 := by rw [ae]; exact g7
 have hex : c9 (cK ad) aa.t0 ⟨[], s.aw, s.H, s.low, none⟩ [] = some (⟨[(119, .map l)], s.aw, s.H, min s.low s.H.length, none⟩, [false]) := by
  simp [aa, c9, gP, nb, jk, hJ, aj.ag, v7, f7, au.put, lZ]
 refine (c1.aj5 cC bx bj hr hd (iC := ⟨[], s.aw, s.H, s.low, none⟩) hex (l := l) (bk := ga aI V.bool (cB ks)) rfl a8
  (fun d es ar => ∃ bs, es = ga aI V.bool (cB bs) /\ rW j al ew l (120 :: ts) (.ptr s.H.length 0 :: vs) bs (s.H.length + 1) ar /\ pU j.Model.bn.l ks d bs)
  (fun es ar => ∃ bs, C4 j.Model.bn.l ks bs /\ rW j al ew l ts vs bs 0 ar) ⟨ks, rfl, ⟨rfl, rfl, ⟨_, UN ae 120 (.ptr s.H.length 0), ?_⟩, ⟨fun m hm p hp => ?_, aD.2⟩, ?_⟩, .start hnd⟩ ?_ ?_ ?_).mono ?_
 · show up σ 120 (.ptr s.H.length 0) 1 :: up σ 120 (.ptr s.H.length 0) 7 :: up σ 120 (.ptr s.H.length 0) 120 :: List.map (up σ 120 (.ptr s.H.length 0)) ts = _
   rw [iE _ _ (by decide), iE _ _ (by decide), uB, g1, g7, <- OV]
   congr 3
   exact pX fun x hx => iE _ _ (ht x hx).2.2.2
 · show (s.H ++ [cE.gone])[p.1]? = _
   rw [hq (aD.lt hm hp)]
   exact aD.1 m hm p hp
 · show s.H.length + 1 <= (s.H ++ [cE.gone]).length
   simp
 · rintro d es ar ⟨bs, -, h, -⟩
   obtain ⟨a7, h1, h2⟩ := h.ok
   show bJ ar.aw 120 = _
   rw [h1]
   exact (et (et (et h2).2).2).1
 · rintro d es ar ⟨bs, rfl, h, hp⟩ kv kP
   exact alZ ym mV hl (fun t q => ⟨(ht t q).1, (ht t q).2.1, (ht t q).2.2.1⟩) iZ h hp kP
 · rintro d es ar ⟨bs, rfl, ⟨dw, al4, ⟨a7, h1, h2⟩, sK, mJ⟩, hp⟩ eo
   rw [Bm dw al4]
   obtain ⟨dI, H', low', kT, q1, aS, bZ, cR, e8, rfl⟩ := aj6 (ad := ad) (R := aa) (b := s.H.length + 1) (σ := a7) (H := ar.H) (low := ar.low) (Q := fun kT H2 => kT = up a7 122 (.bool false) /\ H2 = ar.H) (pp (.bool false) <| fZ ⟨rfl, rfl, rfl⟩) h1 mJ
   subst e8
   refine ⟨_, q1, bZ, bs, hp.fin fun t EU => eo (aI t, .bool true) ?_, rfl, rfl, ⟨_, aS, ?_⟩, sK, cx _⟩
   · unfold ga cB
     rw [qR]
     exact ey.2 ⟨t, EU, rfl⟩
   · show up a7 122 (.bool false) 1 :: up a7 122 (.bool false) 7 :: List.map (up a7 122 (.bool false)) ts = _
     have ec := (et h2).1
     have zc := (et (et h2).2).1
     have al5 := (et (et (et h2).2).2).2
     rw [iE _ _ (by decide), iE _ _ (by decide), ec, zc, <- al5]
     congr 2
     exact pX fun x hx => iE _ _ (ht x hx).2.1
 · rintro x ar ⟨rfl, es, s2, ⟨bs, h1, h2⟩, rfl⟩
   exact ⟨rfl, bs, h1, h2.aE, h2.ro, h2.ok, h2.own, h2.len⟩
end
end Go.Abs.U
namespace Go.Abs.U
open Go Go.Abs
noncomputable section
variable {C : Ctx} {fid : Nat -> Nat} {vars : List Nat} {N : Nat} {ad : Nat -> Option ca}
theorem Bn {c : cm} {σ : cb} {H : Heap} {Q : X -> cb -> Heap -> Prop} {aw : Env} (h : ft ad 0 c σ H Q) (ae : Fits aw σ) (low : Nat) :
  ∃ x dI H' low' a7, dO ad c ⟨[], aw, H, low, none⟩ = some (x, ⟨[], dI, H', low', none⟩) /\ Fits dI a7 /\ Q x a7 H' := by
 obtain ⟨x, dI, H', low', a7, h1, h2, -, -, av⟩ := h aw low ae (cx _) (cx _)
 exact ⟨x, dI, H', low', a7, h1, h2, av⟩
theorem X3 {σ : cb} {a b c d : Nat} {x y z w : V} (h : At σ [a, b, c, d] [x, y, z, w]) : At σ [a, b] [x, y] := by
 simp only [At, eD, n5, zp] at h ⊢
 exact ⟨h.1, h.2.1, trivial⟩
theorem al6 {σ : cb} {a b : Nat} {x y : V} (h : At σ [a, b] [x, y]) : At σ [b] [y] := by
 simp only [At, eD, n5, zp] at h ⊢
 exact ⟨h.2.1, trivial⟩
def OW : cm := .region [⟨some (118, true), .bin .lss (.var 117) (.var 116), none⟩] none
def OX : cm := .cond (.var 118) .skip (.exit 4)
def OY : cm := .region [⟨some (133, false), .bin .add (.var 117) (.const (.int .i64 1)), none⟩, ⟨some (117, true), .mv (.tmp 133), none⟩] none
section
variable {b : Nat} {σ : cb} {H : Heap}
theorem al7 {ab : dJ} {al ew l : Nat} {m : List (Int × Bool)} (j : At σ [1, 7] [.ptr al 0, .ptr ew 0]) (aD : Own H [[(ew, .cells [.map l])], [(l, .map (ga aI V.bool m))], [(al, .cells (jg ab))]]) :
  ft ad b (wB (hA 6)) σ H fun x a7 H' => x = .normal /\ H' = H /\ At a7 [1, 7, 116, 117] [.ptr al 0, .ptr ew 0, aI ab.Model.bn.len, aI 0] := by
 rw [<- CY j]
 refine sI <| pp (.ptr al 0) <| pp (.ptr al 6) <| ph (bP 3 iF ab.Model.bn) (gZ rfl (aD.get 2 rfl) rfl) <| ph (aI ab.Model.bn.len) (uD rfl _) <| pp (aI 0) <| fZ ⟨rfl, rfl, rfl⟩
theorem al8 {i n : Int} (h1 : σ 116 = aI n) (h2 : σ 117 = aI i) : ft ad b (.seq OW OX) σ H fun x a7 H' => x = (if i < n then .normal else .exit 4) /\ H' = H /\ a7 = up σ 118 (.bool (decide (i < n))) := by
 refine oF <| sI <| ph (.bool (decide (i < n))) ?_ <| fZ ?_
 · rw [mn]
   show (dY .lss (σ 117) (σ 116)).map _ = _
   rw [h1, h2]; rfl
 · by_cases h : i < n
   · refine x0 (β := decide (i < n)) rfl (by simpa using h) (xY ⟨by rw [if_pos h], rfl, rfl⟩)
   · refine x1 (β := decide (i < n)) rfl (by simpa using h) (GP ⟨by rw [if_neg h], rfl, rfl⟩)
theorem al9 {i : Int} (h2 : σ 117 = aI i) : ft ad b OY σ H fun x a7 H' => x = .normal /\ H' = H /\ a7 = up σ 117 (aI (aQ (i + 1))) := by
 refine sI <| ph (aI (aQ (i + 1))) ?_ <| pp (aI (aQ (i + 1))) <| fZ ⟨rfl, rfl, rfl⟩
 rw [mn]
 show (dY .add (σ 117) (aI 1)).map _ = _
 rw [h2]; rfl
end
theorem ama (cC : C.P.follows .mixedOrders = true) (bx : eR C fid) (bj : gx C fid (cK ad)) {hd sG qK inc : Code} (dL : C.code vars N hd = some OW) (e7 : C.code vars N sG = some OX) (gE : C.code vars N inc = some OY)
  (hr : xU C vars N qK = some aa) (kK : Be C vars N (I5 qK) = some kQ) (ym : ad 197 = some (.code DC)) (mV : yQ ad) {j : dJ} (hl : j.Model.bn.l.length <= 12) {al ew l : Nat} {ks : List Int} {s : au} (hnd : ks.Nodup)
  (hs : rW j al ew l [116, 117] [aI j.Model.bn.len, aI 0] ks 0 s) :
  c1 C fid vars N (.block 4 (.loop (.seq hd (.seq sG (.seq (.block 5 qK) inc))))) s fun x ar => x = .normal /\ ∃ bs, pB j.Model.bn.l ks j.Model.bn.l.length bs /\ rW j al ew l [] [] bs 0 ar := by
 refine c1.block (c1.loop (fun k ar => ∃ (i : Nat) (bs : List Int), i + k = j.Model.bn.l.length /\ bs.Nodup /\ pB j.Model.bn.l ks i bs /\ rW j al ew l [116, 117] [aI j.Model.bn.len, aI i] bs 0 ar) j.Model.bn.l.length ⟨0, ks, by omega, hnd, .zero, hs⟩ ?_)
 rintro k s1 ⟨i, cn, asn, amb, BT, EV, EW, ⟨σ, ae, hB⟩, aD, hlen⟩
 have g1 : σ 1 = .ptr al 0 := (et hB).1
 have g7 : σ 7 = .ptr ew 0 := (et (et hB).2).1
 have X4 : σ 116 = aI j.Model.bn.len := (et (et (et hB).2).2).1
 have X5 : σ 117 = aI i := (et (et (et (et hB).2).2).2).1
 rw [Bm EV EW]
 obtain ⟨x, dI, H', low', a7, q1, aS, bZ, rfl, e8⟩ := Bn (ad := ad) (al8 (H := s1.H) X4 X5) ae s1.low
 have X6 : j.Model.bn.len = (j.Model.bn.l.length : Int) := rfl
 have OZ : At a7 [1, 7, 116, 117] [.ptr al 0, .ptr ew 0, aI j.Model.bn.len, aI i] := by
  rw [e8]
  show [up σ 118 (.bool (decide ((i : Int) < j.Model.bn.len))) 1, up σ 118 (.bool (decide ((i : Int) < j.Model.bn.len))) 7, up σ 118 (.bool (decide ((i : Int) < j.Model.bn.len))) 116, up σ 118 (.bool (decide ((i : Int) < j.Model.bn.len))) 117] = _
  rw [iE _ _ (by decide), iE _ _ (by decide), iE _ _ (by decide), iE _ _ (by decide), g1, g7, X4, X5]
 by_cases hi : i < j.Model.bn.l.length
 · have hx : x = .normal := by rw [bZ, if_pos (by rw [X6]; omega)]
   subst hx
   refine c1.yT cC bx bj dL q1 (fun s2 oh => c1.seq (c1.dO cC bx bj e7 oh) (fun eV av => ?_) fun y eV hy av => absurd av.1 hy) (fun h => absurd rfl h)
   obtain ⟨-, rfl⟩ := av
   refine c1.seq (Gq := fun y eV => y = .normal /\ ∃ bs, C4 j.Model.bn.l cn bs /\ rW j al ew l [116, 117] [aI j.Model.bn.len, aI i] bs 0 eV) (c1.block ((al3 (s := ⟨[], dI, s1.H, low', none⟩) cC bx bj hr kK ym mV hl amb (ts := [116, 117]) (vs := [aI j.Model.bn.len, aI i]) (by decide) ⟨rfl, rfl, ⟨a7, aS, OZ⟩, aD, cx _⟩).mono fun y eV hy => ⟨by rw [hy.1]; rfl, hy.2⟩)) (fun eV av => ?_) fun y eV hy av => absurd av.1 hy
   obtain ⟨-, dZ, X7, LF, Ab, ⟨rX, amc, u7⟩, yW, Sc⟩ := av
   have ec : rX 1 = .ptr al 0 := (et u7).1
   have zc : rX 7 = .ptr ew 0 := (et (et u7).2).1
   have amd : rX 116 = aI j.Model.bn.len := (et (et (et u7).2).2).1
   have bi : rX 117 = aI i := (et (et (et (et u7).2).2).2).1
   rw [Bm LF Ab]
   obtain ⟨y, aso, asp, asq, ame, bG, ch, rfl, rfl, iB⟩ := Bn (ad := ad) (al9 (H := eV.H) bi) amc eV.low
   refine (c1.dO cC bx bj gE bG).mono fun y jx hy => ?_
   obtain ⟨rfl, rfl⟩ := hy
   refine .inl ⟨rfl, k - 1, by omega, i + 1, dZ, by omega, X7.dE, .succ BT X7, rfl, rfl, ⟨ame, ch, ?_⟩, yW, cx _⟩
   rw [iB]
   show [up rX 117 (aI (aQ ((i : Int) + 1))) 1, up rX 117 (aI (aQ ((i : Int) + 1))) 7, up rX 117 (aI (aQ ((i : Int) + 1))) 116, up rX 117 (aI (aQ ((i : Int) + 1))) 117] = _
   rw [iE _ _ (by decide), iE _ _ (by decide), iE _ _ (by decide), uB, ec, zc, amd, ep (by omega)]
 · have hx : x = .exit 4 := by rw [bZ, if_neg (by rw [X6]; omega)]
   subst hx
   refine c1.yT cC bx bj dL q1 (fun s2 oh => c1.seq (c1.dO cC bx bj e7 oh) (fun eV av => absurd av.1 (by simp)) fun y eV hy av => ?_) (fun _ => ?_)
   · obtain ⟨rfl, rfl⟩ := av
     have : i = j.Model.bn.l.length := by omega
     subst this
     exact .inr ⟨by simp, rfl, cn, BT, rfl, rfl, ⟨a7, aS, X3 OZ⟩, aD, cx _⟩
   · have : i = j.Model.bn.l.length := by omega
     subst this
     exact .inr ⟨by simp, rfl, cn, BT, rfl, rfl, ⟨a7, aS, X3 OZ⟩, aD, cx _⟩
theorem amf (cC : C.P.follows .mixedOrders = true) (bx : eR C fid) (bj : gx C fid (cK ad)) {p1 p2 p3 lu rM Ey IQ hd sG qK inc : Code} (ah : C.code vars N p1 = some (hA 1)) (e2 : C.code vars N p2 = some (hA 2)) (b5 : C.code vars N p3 = some (hA 3)) (cU : C.code vars N lu = some (hA 4)) (ej : C.code vars N rM = some (hA 5))
  (jH : C.code vars N Ey = some (wB (hA 6))) (v7 : C.code vars N IQ = some (hA 7)) (dL : C.code vars N hd = some OW) (e7 : C.code vars N sG = some OX) (gE : C.code vars N inc = some OY)
  (hr : xU C vars N qK = some aa) (kK : Be C vars N (I5 qK) = some kQ) (ym : ad 197 = some (.code DC)) (mV : yQ ad) (O0 : IX ad) (j : dJ) :
  c1 C fid vars N (.seq p1 (.seq p2 (.seq p3 (.seq lu (.seq rM (.seq (.seq Ey (.block 4 (.loop (.seq hd (.seq sG (.seq (.block 5 qK) inc)))))) IQ)))))) ⟨[], iP 0 [.agg (jg j)], [], 0, none⟩
   fun x s => x = .ret /\ bJ s.aw 2 = .bool (ya j.Model.Tables.l j.Model.bn.l) := by
 obtain ⟨x, mo, H1, b0, dV, q1, aS, bZ⟩ := Bn (ad := ad) (aj9 (H0 := []) O0 j (alU j)) (Ms 0 [.agg (jg j)]) 0
 unfold ya
 cases bd : (decide (j.Model.bn.l.length <= 12) && j.Model.bn.l.all (oJ j.Model.Tables.l)) with
 | false =>
   rw [bd] at bZ
   obtain ⟨rfl, hB⟩ := bZ
   have af : bJ mo 2 = .bool false := (aS 2).trans (et hB).1
   have aP : (decide (j.Model.bn.l.length <= 12) && (j.Model.bn.l.all (oJ j.Model.Tables.l) && C3 j.Model.bn.l j.Model.Tables.l.length)) = false := by
    rw [<- BB, bd]; rfl
   rw [aP]
   refine c1.yT cC bx bj ah q1 (fun s2 h2 => c1.yT cC bx bj e2 h2 (fun eV av => c1.seq (c1.dO cC bx bj b5 av) (fun jx bc => absurd bc.1 (by simp)) fun y jx hy bc => ?_) fun _ => ⟨rfl, af⟩) fun _ => ⟨rfl, af⟩
   obtain ⟨rfl, rfl⟩ := bc
   exact ⟨rfl, af⟩
 | true =>
   rw [bd] at bZ
   obtain ⟨rfl, al, -, hB, aD⟩ := bZ
   obtain ⟨X8, eo⟩ := Bool.and_eq_true_iff.1 bd
   have hl : j.Model.bn.l.length <= 12 := by simpa using X8
   rw [X8, eo, dt, dt]
   refine c1.yT cC bx bj ah q1 (fun s2 h2 => c1.yT cC bx bj e2 h2 (fun eV av => c1.seq (c1.dO cC bx bj b5 av) (fun jx bc => ?_) fun y jx hy bc => absurd bc.1 hy) fun h => absurd rfl h) fun h => absurd rfl h
   obtain ⟨-, rfl⟩ := bc
   obtain ⟨x, Aq, H2, dv, kT, bG, ch, rfl, ew, l, -, -, amg, X9⟩ := Bn (ad := ad) (aku (b := 0) j hB aD (alX j hl)) aS b0
   refine c1.yT cC bx bj cU bG (fun s2 h2 => c1.seq (c1.dO cC bx bj ej h2) (fun jx bc => ?_) fun y jx hy bc => absurd bc.1 hy) fun h => absurd rfl h
   obtain ⟨-, rfl⟩ := bc
   obtain ⟨x, wN, rR, Jm, rX, t1, t2, rfl, rfl, u7⟩ := Bn (ad := ad) (al7 (b := 0) amg X9) ch dv
   have hnd : (wM j.Model.bn.l []).Nodup := X1 _ Fk
   refine c1.seq (c1.seq (c1.dO cC bx bj jH t1) (fun jx bc => ?_) fun y jx hy bc => absurd bc.1 hy) (fun O1 h5 => ?_) fun y O1 hy (h5 : y = .normal /\ ∃ bs, pB j.Model.bn.l (wM j.Model.bn.l []) j.Model.bn.l.length bs /\ rW j al ew l [] [] bs 0 O1) => absurd h5.1 hy
   · obtain ⟨-, rfl⟩ := bc
     exact ama cC bx bj dL e7 gE hr kK ym mV hl hnd ⟨rfl, rfl, ⟨rX, t2, u7⟩, X9, cx _⟩
   · obtain ⟨-, bs, amh, ami, Lx, ⟨amj, amk, aml⟩, amm, -⟩ := h5
     rw [Bm ami Lx]
     have zc : At amj [7] [.ptr ew 0] := al6 aml
     obtain ⟨x, amn, asr, ass, ast, kJ, o6, rfl, amo⟩ := Bn (ad := ad) (akG (b := 0) zc amm) amk O1.low
     refine (c1.dO cC bx bj v7 kJ).mono fun y asu hy => ?_
     obtain ⟨rfl, rfl⟩ := hy
     refine ⟨rfl, ?_⟩
     show bJ amn 2 = _
     rw [o6 2, (et amo).1]
     have gT : ∀ h ∈ j.Model.bn.l, 0 <= h.Table /\ h.Table < (j.Model.Tables.l.length : Int) := fun h eK => by
      have := fo.1 eo h eK
      unfold oJ at this
      simp only [cd, decide_eq_true_eq] at this
      exact ⟨this.1.1, this.1.2⟩
     rw [<- agt (N := j.Model.Tables.l.length) hnd (fun t => by rw [X2]; simp) gT amh]
     unfold cB
     rw [n4]
end
end Go.Abs.U
