/- Texts of this claim, joined and written short by a program. -/
import Derived.Test.YtjgngmpmjbkbpaaGreatDoorP25
import Derived.Lib.Fields
import Derived.Lib.Bytealg
import Derived.KernelRfl
import Derived.Test.YtjgngmpmjbkbpaaGreatDoorP00
set_option linter.unusedVariables false
set_option linter.unusedSimpArgs false
set_option linter.unusedSectionVars false
namespace Go.Abs
open Go
variable {ad : Nat -> Option ca}
def as1 (n es bytes : Nat) (z : List V) : iw := ⟨n, .seq (.region [⟨some (2, true), .mv (.const .c0), none⟩] none)
 (.seq (.seq (.region [⟨some (3, false), .mv (.var 0), none⟩, ⟨some (4, true), .qS 1 false (.tmp 3) (.const .c0), none⟩] none)
   (.cond (.var 4) (.seq (.region [⟨some (2, true), .mv (.const .c0), none⟩] none) .ret) .skip))
   (.seq (.region [⟨some (5, false), .lit es z 0 [] true, none⟩, ⟨some (6, false), .mv (.var 0), none⟩, ⟨some (7, false), .append es bytes (.tmp 5) (.tmp 6), none⟩, ⟨some (2, true), .mv (.tmp 7), none⟩] none) .ret)), [.tmp 2], true⟩
def asR {α : Type} (bytes : Nat) : ak α -> Option (ak α)
 | .nil => some .nil
 | x => rv bytes .emp x
theorem auq {i n es bytes : Nat} {z : List V} (dX : ad i = some (.code (as1 n es bytes z))) (hn : 1 <= n) (H : Heap) : cK ad (.fn i [] []) [.c0] H = some (.c0, H, H.length) := by
 rw [sf, dX]
 simp [jl, as1, hn, jD, mH, oc, qc, qa, c9, b9, step, gP, au.put, aj.ag, iP, fR, bJ, hZ, lP, finish, gl, eg, old, fJ, tt]
theorem aur {i n es bytes : Nat} {z : List V} (dX : ad i = some (.code (as1 n es bytes z))) (hn : 1 <= n) (H : Heap) : cK ad (.fn i [] []) [.emp] H = some (.emp, H, H.length) := by
 rw [sf, dX]
 simp [jl, as1, hn, jD, mH, oc, qc, qa, c9, b9, step, gP, au.put, aj.ag, iP, fR, bJ, hZ, lP, finish, gl, eg, fe, tv, ct, elems, old, fJ, tt]
theorem aus {i n es bytes : Nat} {z l : List V} (dX : ad i = some (.code (as1 n es bytes z))) (hn : 1 <= n) (hp : ct l = true) (hc : b4 (l.flatMap aG) = true) (hl : l ≠ []) (hb : l.length * (bytes + 1) <= 2 ^ 40) (H : Heap) :
  cK ad (.fn i [] []) [.list es l] H = some (.cQ H.length es 0 l.length l.length, H ++ [.row es l false], H.length) := by
 have ho : fc H.length l = true := CU hp
 rw [sf, dX]
 simp [jl, as1, hn, jD, mH, oc, qc, qa, c9, b9, step, gP, au.put, aj.ag, iP, fR, bJ, hZ, lP, finish, gl, eg, fe, tv, ct, elems, old, fJ, tt, An hp, hl, hc, hb, ho]
theorem aut {i n es bytes : Nat} {z : List V} (dX : ad i = some (.code (as1 n es bytes z))) (hn : 1 <= n) (H : Heap) :
  cK ad (.fn i [] []) [.list es []] H = some (.emp, H, H.length) := by
 rw [sf, dX]
 simp [jl, as1, hn, jD, mH, oc, qc, qa, c9, b9, step, gP, au.put, aj.ag, iP, fR, bJ, hZ, lP, finish, gl, eg, fe, tv, ct, elems, old, fJ, tt]
section
variable {b : Nat} {az σ : cb} {H : Heap} {wr : List Bool} {rest : List b3}
theorem at1 {α : Type} {i n es bytes : Nat} {f : α -> V} {z : List V} {s y : ak α} {as9 x : aj} {ms : cW}
  (dX : ad i = some (.code (as1 n es bytes z))) (hn : 1 <= n) (hs : asR bytes s = some y) (aD : Own H ms) (ae : bX az σ as9 = .fn i [] []) (hx : bX az σ x = bP es f s) (hp : ∀ a, bO (f a) = true) (hc : ∀ a, b4 (aG (f a)) = true) (hb : b <= H.length) :
  ∃ v H1 m', b9 (cK ad) (bX az σ) H H.length (.call true as9 [x]) = some (v, H1, H.length) /\ ku b es f v y m' /\ Own H1 (m' :: ms) /\ H.length <= H1.length := by
 have key : ∀ v, cK ad (.fn i [] []) [bP es f s] H = some (v, H, H.length) -> ku b es f v y [] -> ∃ v H1 m', b9 (cK ad) (bX az σ) H H.length (.call true as9 [x]) = some (v, H1, H.length) /\ ku b es f v y m' /\ Own H1 (m' :: ms) /\ H.length <= H1.length := fun v j2 hr =>
  ⟨v, H, [], by rw [sE]; simp [ae, hx, j2], hr, aD.ins 0, aK _⟩
 cases s with
 | nil => cases hs; exact key _ (auq dX hn H) .nil
 | emp => cases hs; exact key _ (aur dX hn H) .emp
 | mk l =>
   have hs : rv bytes .emp (ak.mk l) = some y := hs
   unfold rv at hs
   by_cases hl : l = []
   · subst hl
     rw [if_pos (show (ak.mk ([] : List α)).l = [] from rfl)] at hs
     cases hs
     exact key _ (aut dX hn H) .emp
   · rw [if_neg (show ¬ (ak.mk l).l = [] from hl)] at hs
     split at hs
     · rename_i du
       cases hs
       have j2 := aus dX hn (GY hp l) (U0 hc l) (by simpa using hl) (by simpa [ak.l] using du) H
       refine ⟨.cQ H.length es 0 (l.map f).length (l.map f).length, H ++ [.row es (l.map f) false], [(H.length, .row es (l.map f) false)], ?_, .row _ _ (by simpa using hl) hb, aD.grow _, by simp⟩
       rw [sE]; simp only [eD, n5, ae, hx, bP, j2, tk]
     · cases hs
theorem auu {α : Type} {i n es bytes : Nat} {f : α -> V} {z : List V} {s y : ak α} {d : Option (Nat × Bool)} {g : Option (aj × Bool)} {as9 x : aj} {Q : cb -> Heap -> List Bool -> Prop} {ms : cW} (hw : hE az σ g = some true)
  (dX : ad i = some (.code (as1 n es bytes z))) (hn : 1 <= n) (hs : asR bytes s = some y) (aD : Own H ms) (ae : bX az σ as9 = .fn i [] []) (hx : bX az σ x = bP es f s) (hp : ∀ a, bO (f a) = true) (hc : ∀ a, b4 (aG (f a)) = true)
  (dq : ∀ H' v' m' mv, ku b es f v' y m' -> Own H' (m' :: ms) -> Op ad b rest (gL az d v') (gM σ d v') H' (mv :: wr) Q) : Op ad b (⟨d, .call true as9 [x], g⟩ :: rest) az σ H wr Q := fun aE aw low h1 h2 av bc => by
 obtain ⟨v, H1, m', ah, e2, b5, cU⟩ := at1 dX hn hs aD ae hx hp hc bc
 exact asN (o := ⟨d, .call true as9 [x], g⟩) hw (fun hb => ⟨c4 hb cU, H.length, hb, ah, rfl⟩) (dq H1 v m' _ e2 b5) aE aw low h1 h2 av bc
end
section
variable {b : Nat} {az σ : cb} {H : Heap} {wr : List Bool} {rest : List b3}
theorem auv {es : Nat} {z : List V} {x : aj} {v v' : V} {d : Option (Nat × Bool)} {g : Option (aj × Bool)} {ms hF : cW} {Q : cb -> Heap -> List Bool -> Prop} (hw : hE az σ g = some true) (aD : Own H ms) (aP : nd b 16 ms v v' hF) (hx : bX az σ x = v)
  (hp : bO v' = true) (hc : (aG v').length = es /\ b4 (aG v') = true) (dq : ∀ H' mv, Own H' hF -> Op ad b rest (gL az d (.list es [v'])) (gM σ d (.list es [v'])) H' (mv :: wr) Q) : Op ad b (⟨d, .lit es z 1 [(0, x)] true, g⟩ :: rest) az σ H wr Q := fun aE aw low h1 h2 av bc => by
 obtain ⟨H1, b0, ah, gU, ec⟩ := aP H H.length aD bc
 have eT : gl H H.length v = some (v', H1, b0) := ah
 have hl := (Cc eT).2
 have ae := UZ (es := es) (z := lO z) [v'] [] (fun w hw => by rw [PJ] at hw; subst hw; exact hc)
 refine asN (o := ⟨d, .lit es z 1 [(0, x)] true, g⟩) (v := .list es [v']) (H1 := H1) (mv := fJ H H1 b0) hw (fun hb => ⟨by omega, b0, ec, ?_, rfl⟩) (dq H1 _ gU) aE aw low h1 h2 av bc
 rw [SU]
 simp only [step, eD, n5, hx, fe, eT, JL, List.zip_nil_right]
 simp only [oZ, qQ, List.length_singleton, List.range'_one, JL, List.zip_nil_right] at ae
 simp only [ae, ct, hp, zq, if_true, Nat.one_ne_zero, if_false]
end
def atb (fY : List Nat) (ops : List b3) (wr : List Bool) (n m : Nat) : Bool :=
 wr.zipIdx.all fun (w, i) => !w || ((i == n || Nat.ble m i) && ops.zipIdx.all fun (o, j) => !gm o.op || i == j || qT fY i j || (i == n && Nat.blt j m))
theorem atH {call : c3} (hc : lU call) {ops : List b3} {S : Nat -> au} {a8 : Nat -> Bool} (hs : ∀ i a1, ops[i]? = some a1 -> mi call a1 (S i) (S (i + 1)) (a8 i)) {i : Nat} : ∀ {d : Nat}, i + d <= ops.length -> (∀ x, i <= x -> x < i + d -> a8 x = false) -> (S (i + d)).H = (S i).H
 | 0, _, _ => rfl
 | d + 1, hd, ae => by
   have := (hs (i + d) ops[i + d] (oV (by omega))).still hc (ae (i + d) (by omega) (by omega))
   exact this.trans (atH hc hs (d := d) (by omega) fun x h1 h2 => ae x h1 (by omega))
theorem auw {call : c3} {a1 : b3} {S lV : au} {a8 : Bool} (h : mi call a1 S lV a8) (ae : a8 = false) : kk call (a1, S, S.H) = true := by
 unfold kk
 rcases h with ⟨h0, v, H1, b0, h1, -, h2⟩ | ⟨h0, -, -⟩
 · simp only [h0, h1, afJ, dt, pZ]
   exact h2.symm.trans ae
 · simp only [h0]
theorem atI {call : c3} : ∀ {ops : List b3} {st : au} {cB : List au}, gD call ops st = some cB -> cB.length = ops.length + 1
 | [], st, cB, h => by simp only [gD, aA] at h; subst h; rfl
 | o :: r, st, cB, h => by
   simp only [gD] at h
   split at h
   · split at h
     · obtain ⟨t, h1, rfl⟩ := cD.1 h
       simp [atI h1]
     · cases h
   · obtain ⟨t, h1, rfl⟩ := cD.1 h
     simp [atI h1]
   · cases h
theorem auy {call : c3} : ∀ {ops : List b3} {st : au} {cB : List au}, gD call ops st = some cB -> cB[0]? = some st
 | [], st, cB, h => by simp only [gD, aA] at h; subst h; rfl
 | o :: r, st, cB, h => by
   simp only [gD] at h
   split at h
   · split at h
     · obtain ⟨t, h1, rfl⟩ := cD.1 h; rfl
     · cases h
   · obtain ⟨t, h1, rfl⟩ := cD.1 h; rfl
   · cases h
section
variable {b : Nat} {ij σ dV : cb} {H : Heap} {Q : X -> cb -> Heap -> Prop} {ms : cW}
theorem auz {A M R ops : List b3} {o : b3} {fY : List Nat} (sz : A ++ o :: (M ++ R) = ops) (aD : Own H ms) (hA : ig (cK ad) ms A nN σ ij dV) (bt : hE ij dV o.guard = some true)
  (dC : b <= H.length -> ∃ v H1 b0 asS rX, b <= b0 /\ b <= H1.length /\ b9 (cK ad) (bX ij dV) H H.length o.op = some (v, H1, b0) /\ Own H1 ms /\ ig (cK ad) ms M (gL ij o.dst v) (gM dV o.dst v) asS rX /\
    Op ad b R asS rX H1 (List.replicate M.length false ++ fJ H H1 b0 :: List.replicate A.length false) (fun a7 H' wr => atb fY ops wr A.length (A.length + 1 + M.length) = true /\ Q .normal a7 H')) :
  ft ad b (.region ops (some fY)) σ H Q := fun aw low h1 h2 av => by
 obtain ⟨v, H1, b0, asS, rX, ec, gJ, s1, atc, k2, aa⟩ := dC av
 obtain ⟨pw, mo, b2, f1, f2, f0, f3, f4⟩ := hA.run (b := b) (low := low) (wr := []) (o :: (M ++ R)) sH h1 aD h2 av
 obtain ⟨Vh, Aq, ah, e2, b5⟩ := Aj f1 f2 H1 (min b2 b0) o.dst v
 obtain ⟨auA, wN, IU, g1, g2, g0, g3, g4⟩ := k2.run (b := b) (low := min b2 b0) (wr := fJ H H1 b0 :: List.replicate A.length false) R e2 b5 atc (by omega) gJ
 obtain ⟨auB, aso, asp, Jt, arW, ame, cn, dZ, lx, W3, Bh, auC⟩ := aa auA wN IU g1 g2 g0 gJ
 have aoE : gP pw mo o.guard = some true := by rw [GQ f1 f2]; exact bt
 have Gw : b9 (cK ad) (aj.ag pw mo) H H.length o.op = some (v, H1, b0) := by rw [vY f1 f2]; exact s1
 rw [sz] at f3 f4
 have he : c9 (cK ad) ops ⟨[], aw, H, low, none⟩ [] = some (⟨auB, aso, asp, Jt, none⟩, arW) := by
  rw [f3, vh]
  simp only [c9, aoE, Gw]
  rw [ah, g3]; exact cn
 obtain ⟨cB, sx⟩ := G1 he
 obtain ⟨qy, rB, t1, t2, t3, t4⟩ := f4 cB sx
 simp only [gD, aoE, Gw] at t3
 rw [ah] at t3
 obtain ⟨auD, t5, t6⟩ := cD.1 t3
 obtain ⟨av5, av6, kJ, o6, adi, adj⟩ := g4 auD t5
 have auE := auy t5
 obtain ⟨S, a8, h0, hn, ml, hs⟩ := vI _ _ _ _ _ he
 have vw := K9 ops S a8 cB hs (by rw [h0]; exact sx)
 simp only [List.reverse_nil, oZ] at ml
 have hw : ∀ {i}, arW[i]? = some true ↔ i < ops.length /\ a8 i = true := fun {i} => by
  rw [ml, kh]
  by_cases hi : i < ops.length
  · rw [List.getElem?_range hi]; simp [hi]
  · rw [mF (by simpa using hi)]; simp [hi]
 have at2 : ∀ {i}, arW.getD i false = true ↔ i < ops.length /\ a8 i = true := fun {i} => by
  rw [<- hw, Bu]
  cases arW[i]? with
  | none => simp
  | some x => simp
 have cp : ∀ i, i < ops.length -> a8 i = true -> (i = A.length \/ A.length + 1 + M.length <= i) /\ ∀ j o', ops[j]? = some o' -> gm o'.op = true -> i ≠ j -> qT fY i j = true \/ (i = A.length /\ j < A.length + 1 + M.length) := fun i hi ae => by
  unfold atb at Bh
  rw [fo] at Bh
  have := Bh (true, i) (ma.2 (hw.2 ⟨hi, ae⟩))
  simp only [fQ, tj, cd, kG, beq_iff_eq, fo] at this
  refine ⟨this.1.imp id k3, fun j o' hj ht cT => ?_⟩
  have := this.2 (o', j) (ma.2 hj)
  simp only [ht, fQ, kG, cd, beq_iff_eq, cT, or_false, gX, false_or] at this
  exact this.imp id fun q => ⟨q.1, k3 q.2⟩
 have ux : sb (cK ad) fY ops arW ⟨[], aw, H, low, none⟩ = true := by
  unfold sb
  rw [sx]
  simp only [cd]
  constructor
  · unfold JW
    simp only [fo]
    rintro ⟨w, i⟩ hi
    cases w with
    | false => rfl
    | true =>
      simp only [fQ, tj, fo]
      rintro ⟨w', j⟩ hj
      cases w' with
      | false => rfl
      | true =>
        have hi := hw.1 (ma.1 hi)
        have hj := hw.1 (ma.1 hj)
        by_cases cT : i = j
        · simp [cT]
        · have at3 := oV hj.1
          rcases (cp i hi.1 hi.2).2 j _ at3 ((hs j _ at3).gm hj.2) cT with q | ⟨q1, aS⟩
          · simp [q]
          · rcases (cp j hj.1 hj.2).1 with r | r <;> omega
  · rw [fo]
    intro q bD
    unfold JX at bD
    simp only [PO] at bD
    obtain ⟨⟨o', j⟩, hj, bD⟩ := bD
    have hj := ma.1 hj
    simp only at hj bD
    split at bD
    · cases bD
    rename_i acR
    simp only [kG, pZ, not_or, atG, Bool.not_eq_true] at acR
    obtain ⟨ht, h8⟩ := acR
    simp only [PO] at bD
    obtain ⟨⟨BH, k⟩, ai, bD⟩ := bD
    have ai := ma.1 ai
    simp only at ai bD
    split at bD
    · cases bD
    rename_i Z4
    have oj : j < ops.length := (fy.1 hj).1
    have tZ : k <= ops.length := by
     have := (fy.1 ai).1
     rw [atI sx] at this; omega
    have at4 := vw k tZ
    rw [ai] at at4
    cases at4
    rw [vw j (by omega)] at bD
    simp only [PJ] at bD
    subst bD
    simp only [kG, beq_iff_eq, cd, bne_iff_ne, ne_eq, pZ, not_or, not_and, atG] at Z4
    obtain ⟨⟨vJ, Li⟩, aiJ⟩ := Z4
    have hex : ∀ i, i < ops.length -> a8 i = true -> i ≠ j -> qT fY i j = true -> (i < j ↔ i < k) := fun i hi ae cT at5 => by
     rw [<- decide_eq_decide]
     by_cases e : decide (i < j) = decide (i < k)
     · exact e
     · exact absurd (tg.2 ⟨(true, i), ma.2 (hw.2 ⟨hi, ae⟩), by simp [cT, at5, e]⟩) aiJ
    have at6 : a8 j = false := by
     cases hx : a8 j with
     | false => rfl
     | true => rw [at2.2 ⟨oj, hx⟩] at h8; cases h8
    by_cases F3 : j < A.length + 1 + M.length /\ j ≠ A.length /\ (k = 0 \/ k = A.length + 1)
    · obtain ⟨q1, aS, bZ⟩ := F3
      have afL : Own (S k).H ms := by
       rcases bZ with rfl | rfl
       · rw [h0]; exact aD
       · have : cB[A.length + 1]? = some ⟨Vh, Aq, H1, min b2 b0, none⟩ := by
          rw [t1, wW (by omega), t2, <- t6, aun]
          exact auE
         rw [ai] at this
         rw [Bz this]; exact atc
      have atz := vw j (by omega)
      rcases gg j A.length with at7 | at7
      · refine t4 _ afL (o', S j) (nu.2 ⟨j, ?_⟩)
        rw [zl]
        rw [<- sz, hq at7] at hj
        rw [t1, hq (by omega)] at atz
        exact ⟨hj, atz⟩
      · obtain ⟨x, rfl⟩ := n3 (show A.length + 1 <= j by omega)
        refine adj _ afL (o', S (A.length + 1 + x)) (nu.2 ⟨x, ?_⟩)
        rw [zl]
        rw [<- sz, wW (by omega), show A.length + 1 + x - A.length = x + 1 by omega, Y7, hq (by omega)] at hj
        rw [t1, wW (by omega), t2, <- t6, show A.length + 1 + x - A.length = x + 1 by omega, Y7, kJ, hq (by omega)] at atz
        exact ⟨hj, atz⟩
    · have eo : ∀ x, x < ops.length -> a8 x = true -> (x < j ↔ x < k) := fun x hx atA => by
       have vO : x ≠ j := fun e => by rw [e, at6] at atA; cases atA
       rcases (cp x hx atA).2 j o' hj ht vO with q | ⟨q1, aS⟩
       · exact hex x hx atA vO q
       · exfalso
         have q8 : k ≠ 0 := fun e => F3 ⟨aS, by omega, .inl e⟩
         obtain ⟨aj8, as2⟩ := at2.1 (Li q8)
         rcases (cp (k - 1) aj8 as2).1 with r | r
         · exact F3 ⟨aS, by omega, .inr (by omega)⟩
         · rcases (cp (k - 1) aj8 as2).2 j o' hj ht (by omega) with z | ⟨z, -⟩
           · have := hex (k - 1) aj8 as2 (by omega) z
             omega
           · omega
      have eZ : (S k).H = (S j).H := by
       have hc := Vf ad
       have no : ∀ x, x < ops.length -> (x < j /\ k <= x \/ x < k /\ j <= x) -> a8 x = false := fun x hx at5 => by
        cases ed : a8 x with
        | false => rfl
        | true => have := eo x hx ed; omega
       rcases Nat.le_total k j with auF | Ll
       · obtain ⟨d, rfl⟩ := n3 auF
         exact (atH hc hs (by omega) fun x aj8 as2 => no x (by omega) (by omega)).symm
       · obtain ⟨d, rfl⟩ := n3 Ll
         exact atH hc hs (by omega) fun x aj8 as2 => no x (by omega) (by omega)
      rw [eZ]
      exact auw (hs j o' hj) at6
 exact ⟨.normal, aso, asp, Jt, ame, by rw [mH]; simp only [he, n8, ux, Bool.true_or, Bool.or_true, if_true, au.fz], dZ, lx, W3, auC⟩
end
end Go.Abs
set_option maxHeartbeats 2000000
namespace Go.Abs.U
open Go Go.Abs
structure fN where
 Table : Int
 fi : Int
 bS : Int
 deriving Inhabited
def iF (x : fN) : V := .agg [aI x.Table, aI x.fi, aI x.bS]
@[simp] theorem aga (x : fN) : bO (iF x) = true := by simp [iF, bO, ct]
@[simp] theorem agb (x : fN) : b4 (aG (iF x)) = true := by simp [iF, aG, b4]
structure Range where
 eN : Int
 eO : Int
 deriving Inhabited
def pA (x : Range) : V := .agg [aI x.eN, aI x.eO]
@[simp] theorem afQ (x : Range) : bO (pA x) = true := by simp [pA, bO, ct]
@[simp] theorem afR (x : Range) : b4 (aG (pA x)) = true := by simp [pA, aG, b4]
structure Table where
 Name : bQ
 Kind : Int
 aX : (ak Int)
 Range : Range
 c2 : Int
 deriving Inhabited
def kU (x : Table) : V := .agg [.str x.Name, aI x.Kind, bP 1 aI x.aX, aI x.Range.eN, aI x.Range.eO, aI x.c2]
@[simp] theorem afS (x : Table) : bO (kU x) = true := by simp [kU, bO, ct]
@[simp] theorem afT (x : Table) : b4 (aG (kU x)) = true := by simp [kU, aG, b4]
structure Term where
 Cell : Int
 js : Int
 deriving Inhabited
def sL (x : Term) : V := .agg [aI x.Cell, aI x.js]
@[simp] theorem afU (x : Term) : bO (sL x) = true := by simp [sL, bO, ct]
@[simp] theorem afV (x : Term) : b4 (aG (sL x)) = true := by simp [sL, aG, b4]
structure Row where
 cY : (ak Term)
 l1 : Int
 deriving Inhabited
def sM (x : Row) : V := .agg [bP 2 sL x.cY, aI x.l1]
@[simp] theorem afW (x : Row) : bO (sM x) = true := by simp [sM, bO, ct]
@[simp] theorem afX (x : Row) : b4 (aG (sM x)) = true := by simp [sM, aG, b4]
structure Constraint where
 Kind : Int
 mq : Int
 Row : Row
 c2 : Int
 qz : Int
 deriving Inhabited
def rD (x : Constraint) : V := .agg [aI x.Kind, aI x.mq, bP 2 sL x.Row.cY, aI x.Row.l1, aI x.c2, aI x.qz]
@[simp] theorem afY (x : Constraint) : bO (rD x) = true := by simp [rD, bO, ct]
@[simp] theorem afZ (x : Constraint) : b4 (aG (rD x)) = true := by simp [rD, aG, b4]
structure cG where
 Name : bQ
 Ordered : Bool
 aO : (ak Int)
 deriving Inhabited
def rE (x : cG) : V := .agg [.str x.Name, .bool x.Ordered, bP 1 aI x.aO]
@[simp] theorem af0 (x : cG) : bO (rE x) = true := by simp [rE, bO, ct]
@[simp] theorem af1 (x : cG) : b4 (aG (rE x)) = true := by simp [rE, aG, b4]
structure Change where
 Cell : Int
 Add : Int
 deriving Inhabited
def sN (x : Change) : V := .agg [aI x.Cell, aI x.Add]
@[simp] theorem af2 (x : Change) : bO (sN x) = true := by simp [sN, bO, ct]
@[simp] theorem af3 (x : Change) : b4 (aG (sN x)) = true := by simp [sN, aG, b4]
structure jt where
 Kind : Int
 Cell : Int
 Value : Int
 deriving Inhabited
def sO (x : jt) : V := .agg [aI x.Kind, aI x.Cell, aI x.Value]
@[simp] theorem af4 (x : jt) : bO (sO x) = true := by simp [sO, bO, ct]
@[simp] theorem af5 (x : jt) : b4 (aG (sO x)) = true := by simp [sO, aG, b4]
structure dM where
 Delta : (ak Change)
 fC : (ak Row)
 er : (ak jt)
 deriving Inhabited
def Ar (x : dM) : V := .agg [bP 2 sN x.Delta, bP 2 sM x.fC, bP 3 sO x.er]
@[simp] theorem af6 (x : dM) : bO (Ar x) = true := by simp [Ar, bO, ct]
@[simp] theorem af7 (x : dM) : b4 (aG (Ar x)) = true := by simp [Ar, aG, b4]
structure Action where
 cG : Int
 dz : (ak Int)
 dM : dM
 deriving Inhabited
def rF (x : Action) : V := .agg [aI x.cG, bP 1 aI x.dz, bP 2 sN x.dM.Delta, bP 2 sM x.dM.fC, bP 3 sO x.dM.er]
@[simp] theorem af8 (x : Action) : bO (rF x) = true := by simp [rF, bO, ct]
@[simp] theorem af9 (x : Action) : b4 (aG (rF x)) = true := by simp [rF, aG, b4]
structure Model where
 aO : (ak Int)
 Tables : (ak Table)
 dR : (ak bQ)
 c8 : (ak Constraint)
 Operations : (ak cG)
 Actions : (ak Action)
 bn : (ak fN)
 deriving Inhabited
def uF (x : Model) : V := .agg [bP 1 aI x.aO, bP 6 kU x.Tables, bP 1 V.str x.dR, bP 6 rD x.c8, bP 3 rE x.Operations, bP 5 rF x.Actions, bP 3 iF x.bn]
@[simp] theorem agc (x : Model) : bO (uF x) = true := by simp [uF, bO, ct]
@[simp] theorem agd (x : Model) : b4 (aG (uF x)) = true := by simp [uF, aG, b4]
structure dJ where
 Model : Model
 strict : (ak Range)
 deriving Inhabited
def C0 (x : dJ) : V := .agg [bP 1 aI x.Model.aO, bP 6 kU x.Model.Tables, bP 1 V.str x.Model.dR, bP 6 rD x.Model.c8, bP 3 rE x.Model.Operations, bP 5 rF x.Model.Actions, bP 3 iF x.Model.bn, bP 2 pA x.strict]
@[simp] theorem age (x : dJ) : bO (C0 x) = true := by simp [C0, bO, ct]
@[simp] theorem agf (x : dJ) : b4 (aG (C0 x)) = true := by simp [C0, aG, b4]
structure pk where
 Kind : Int
 Index : Int
 deriving Inhabited
def Dx (x : pk) : V := .agg [aI x.Kind, aI x.Index]
@[simp] theorem aCU (x : pk) : bO (Dx x) = true := by simp [Dx, bO, ct]
@[simp] theorem aCV (x : pk) : b4 (aG (Dx x)) = true := by simp [Dx, aG, b4]
end Go.Abs.U
namespace Go.Abs.Lex
open Go
def lE (c : UInt8) : Bool := decide (97 <= c.toNat) && decide (c.toNat <= 122)
def ik (c : UInt8) : Bool := decide (48 <= c.toNat) && decide (c.toNat <= 57)
def kV (c : UInt8) : Bool := lE c || ik c || c.toNat == 95
def hN (c : UInt8) : Bool := c.toNat == 32 || c.toNat == 9 || c.toNat == 10 || c.toNat == 13
def pre (s w : List UInt8) : Bool := s.take w.length == w
def two : List (List UInt8) := [[61, 61], [33, 61], [60, 61], [62, 61], [46, 46]]
def one : List UInt8 := [60, 62, 61, 43, 45, 42, 40, 41, 123, 125, 44, 58, 59]
def sym (s : List UInt8) : Nat := if two.any (pre s) then 2 else match s with
 | [] => 0
 | c :: _ => if one.contains c then 1 else 0
theorem drop_cons {α : Type} {s r : List α} {k : Nat} {c : α} (h : s.drop k = c :: r) : s[k]? = some c /\ s.drop (k + 1) = r /\ k < s.length := by
 have ai : k < s.length := by
  rcases gg k s.length with h1 | h1
  · exact h1
  · rw [Y8 h1] at h; cases h
 rw [oU ai] at h
 injection h with h1 h2
 exact ⟨by rw [oV ai, h1], h2, ai⟩
theorem drop_nil {α : Type} {s : List α} {k : Nat} (h : s.drop k = []) : s.length <= k := by
 have := congrArg List.length h
 simp at this; omega
def gN (p : UInt8 -> Bool) (s : List UInt8) : Nat := (s.takeWhile p).length
theorem x9 (p : UInt8 -> Bool) (c : UInt8) (s : List UInt8) : gN p (c :: s) = if p c then gN p s + 1 else 0 := by
 unfold gN
 rw [List.takeWhile_cons]
 cases p c <;> simp
theorem v8 (p : UInt8 -> Bool) : ∀ s : List UInt8, gN p s <= s.length
 | [] => aK _
 | c :: s => by
   rw [x9]
   have := v8 p s
   split <;> simp; omega
def gy : Bool -> List UInt8 -> Nat
 | _, [] => 0
 | false, c :: r => if hN c then gy false r + 1 else if c.toNat = 35 then gy true r + 1 else 0
 | true, c :: r => if c.toNat != 10 then gy true r + 1 else gy false r + 1
theorem C1 : ∀ (b : Bool) (s : List UInt8), gy b s <= s.length
 | b, [] => by cases b <;> simp [gy]
 | false, c :: r => by
   have h1 := C1 false r
   have h2 := C1 true r
   simp only [gy, iv]
   split
   · omega
   · split <;> omega
 | true, c :: r => by
   have h1 := C1 false r
   have h2 := C1 true r
   simp only [gy, iv]
   split <;> omega
theorem G3 : ∀ s : List UInt8, gy true s = gN (fun c => c.toNat != 10) s + gy false (s.drop (gN (fun c => c.toNat != 10) s))
 | [] => rfl
 | c :: r => by
   rw [x9]
   by_cases h : (c.toNat != 10) = true
   · simp only [gy, h, if_true, List.drop_succ_cons]
     rw [G3 r]; omega
   · have hw : hN c = true := by
      simp at h; simp [hN, h]
     simp [gy, h, hw]
theorem agj (l : List UInt8) (c : UInt8) : 0 <= Lib.indexByte l c ↔ c ∈ l := by
 induction l with
 | nil => exact ⟨fun h => absurd h (show ¬ (0 : Int) <= -1 by decide), fun h => by cases h⟩
 | cons b l ih =>
   have hge := Lib.indexByte_ge l c
   show (0 <= if (b == c) = true then 0 else if (Lib.indexByte l c == -1) = true then -1 else Lib.indexByte l c + 1) ↔ _
   by_cases h : b = c
   · subst h; simp
   · have h1 : (b == c) = false := by simp [h]
     rw [h1, dS, <- ih]
     simp only [gX, if_false]
     by_cases av : Lib.indexByte l c = -1
     · simp [av, ki h]
     · have bc : (Lib.indexByte l c == -1) = false := by simp [av]
       simp only [bc, gX, if_false]
       constructor
       · intro _; right; omega
       · rintro (h5 | h5)
         · exact absurd h5.symm h
         · omega
theorem agk (l : List UInt8) (c : UInt8) : decide (0 <= Lib.indexByte l c) = l.contains c := by
 rw [BA, decide_eq_true_iff, agj, tf]
def ng (s : List UInt8) : Bool := match s with
 | [] => false
 | c :: _ => lE c || ik c || decide (0 < sym s)
def G4 : List UInt8 := [115, 111, 114, 116, 32, 114, 101, 108, 97, 116, 105, 111, 110, 32, 99, 111, 117, 110, 116, 101, 114, 32, 115, 101, 116, 32, 114, 101, 103, 105, 115, 116, 101, 114, 32, 105, 110, 118, 97, 114, 105, 97, 110, 116, 32, 111, 112, 101, 114, 97, 116, 105, 111, 110, 32, 107, 101, 121, 32, 114, 101, 102, 101, 114, 101, 110, 99, 101, 32, 116, 111, 32, 99, 111, 117, 110, 116, 32, 97, 99, 121, 99, 108, 105, 99, 32, 97, 108, 108, 32, 115, 117, 109, 32, 105, 110, 32, 97, 100, 100, 119, 105, 110, 115, 32, 114, 101, 109, 111, 118, 101, 119, 105, 110, 115, 32, 108, 97, 115, 116, 32, 109, 117, 108, 116, 105, 32, 104, 105, 100, 101, 32, 111, 114, 100, 101, 114, 101, 100, 32, 114, 101, 113, 117, 105, 114, 101, 32, 104, 111, 108, 100, 32, 105, 110, 115, 101, 114, 116, 32, 100, 101, 108, 101, 116, 101, 32, 97, 100, 100, 32, 102, 114, 111, 109, 32, 112, 117, 116, 32, 100, 114, 111, 112, 32, 97, 115, 115, 105, 103, 110, 32, 102, 111, 114, 32, 119, 104, 101, 114, 101, 32, 97, 110, 100, 32, 111, 114, 32, 110, 111, 116]
def kw : List (List UInt8) := Lib.fields G4
theorem MA : kw.length = 35 := by kernel_rfl
def kW : List UInt8 -> Nat
 | [] => 0
 | c :: r => if hN c || c.toNat == 35 || ng (c :: r) then 0 else kW r + 1
theorem Vk : ∀ s : List UInt8, kW s <= s.length
 | [] => aK _
 | c :: r => by
   have := Vk r
   simp only [kW, iv]
   split <;> omega
def hO : List UInt8 -> Nat
 | [] => 0
 | c :: r => if lE c then (if kw.contains ((c :: r).take (gN kV (c :: r))) then 2 else 1) else if ik c then 3 else if 0 < sym (c :: r) then 4 else 5
def ka : List UInt8 -> Nat
 | [] => 0
 | c :: r => if lE c then gN kV (c :: r) else if ik c then gN ik (c :: r) else if 0 < sym (c :: r) then sym (c :: r) else kW r + 1
theorem agl {s w : List UInt8} (h : pre s w = true) : w.length <= s.length := by
 unfold pre at h
 have := eq_of_beq h
 rw [<- this, qP]; exact asU _ _
theorem Vl (s : List UInt8) : sym s <= s.length := by
 unfold sym
 split
 · rename_i h
   obtain ⟨w, hw, hp⟩ := tg.1 h
   have := agl hp
   have h2 : ∀ w ∈ two, w.length = 2 := by decide
   rw [h2 w hw] at this; exact this
 · split
   · exact aK _
   · split <;> simp
theorem agm (s : List UInt8) : ka s <= s.length := by
 cases s with
 | nil => exact aK _
 | cons c r =>
   have h1 := v8 kV (c :: r)
   have h2 := v8 ik (c :: r)
   have av := Vl (c :: r)
   have bc := Vk r
   simp only [ka]
   split
   · exact h1
   · split
     · exact h2
     · split
       · exact av
       · simp; omega
def dr (s : List UInt8) (fa : Nat) : Nat := fa + gy false (s.drop fa)
def gz (s : List UInt8) (fa : Nat) : Nat := dr s fa + ka (s.drop (dr s fa))
theorem MB {s : List UInt8} {k : Nat} (h : k <= s.length) : dr s k <= s.length := by
 have := C1 false (s.drop k)
 rw [oW] at this
 unfold dr; omega
theorem MC {s : List UInt8} {k : Nat} (h : k <= s.length) : gz s k <= s.length := by
 have h1 := MB h
 have := agm (s.drop (dr s k))
 rw [oW] at this
 unfold gz; omega
def kindOf (w : List UInt8) : Nat := if w = [] \/ 4096 < w.length then 0 else if dr w 0 = 0 /\ gz w 0 = w.length then hO w else 0
end Go.Abs.Lex
namespace Go.Abs.U
open Go Go.Abs
noncomputable section
def G6 (w : bQ) : Option Int := some (Lex.kindOf w)
def C2 (x : ak Range) (n : Int) : Option (ak Range) := if x.l.length = 1 /\ 1 <= n /\ n <= 1000 then some (.mk ((List.replicate n.toNat x.l).flatten)) else none
def Ni : Option Bool := some true
def strings_IndexByte (s : bQ) (c : Int) : Option Int := some (Lib.indexByte s (UInt8.ofNat c.toNat))
def oJ (ts : List Table) (h : fN) : Bool :=
 (decide (h.Table >= 0) && decide (h.Table < ts.length)) && ((decide (h.bS >= 0) && decide (h.bS < ts.length)) && (!(h.Table == h.bS) && match ts[h.Table.toNat]?, ts[h.bS.toNat]? with
   | some t, some u => (t.Kind == 0) && ((u.Kind == 0) && ((decide (h.fi >= 0) && decide (h.fi < t.aX.l.length)) && ((u.aX.l.length == 1) && (u.aX.l.getD 0 0 == t.aX.l.getD h.fi.toNat 0))))
   | _, _ => false))
def fu (hs : List fN) : Nat -> Int -> Int -> Bool
 | 0, a, b => a == b
 | n + 1, a, b => (a == b) || hs.any fun h => (h.Table == a) && fu hs n h.bS b
def C3 (hs : List fN) (n : Nat) : Bool := hs.all fun h => !fu hs n h.bS h.Table
def ya (ts : List Table) (hs : List fN) : Bool := decide (hs.length <= 12) && (hs.all (oJ ts) && C3 hs ts.length)
def Vq (j : dJ) : Option Bool := some (ya j.Model.Tables.l j.Model.bn.l)
end
end Go.Abs.U
namespace Go.Abs.U
open Go Go.Abs
structure C4 (hs : List fN) (ks qZ : List Int) : Prop where
 sub : ∀ t ∈ qZ, t ∈ ks
 dE : qZ.Nodup
 next : ∀ t ∈ qZ, ∃ h ∈ hs, h.Table = t /\ h.bS ∈ ks
 ei : ∀ K : Int -> Prop, (∀ t, K t -> t ∈ ks) -> (∀ t, K t -> ∃ h ∈ hs, h.Table = t /\ K h.bS) -> ∀ t, K t -> t ∈ qZ
inductive pB (hs : List fN) (ks : List Int) : Nat -> List Int -> Prop
 | zero : pB hs ks 0 ks
 | succ {n : Nat} {cn dZ : List Int} : pB hs ks n cn -> C4 hs cn dZ -> pB hs ks (n + 1) dZ
variable {hs : List fN} {ks : List Int}
theorem pB.sub {n : Nat} {k : List Int} (h : pB hs ks n k) : ∀ t ∈ k, t ∈ ks := by
 induction h with
 | zero => exact fun t h => h
 | succ _ h2 ih => exact fun t h => ih t (h2.sub t h)
theorem pB.ei {n : Nat} {k : List Int} (h : pB hs ks n k) (K : Int -> Prop) (h1 : ∀ t, K t -> t ∈ ks) (h2 : ∀ t, K t -> ∃ h ∈ hs, h.Table = t /\ K h.bS) : ∀ t, K t -> t ∈ k := by
 induction h with
 | zero => exact h1
 | succ _ av ih => exact av.ei K ih h2
theorem pB.walk {n : Nat} {k : List Int} (h : pB hs ks n k) : ∀ t ∈ k, ∃ f : Nat -> Int, f 0 = t /\ (∀ i, i <= n -> f i ∈ ks) /\ ∀ i, i < n -> ∃ h ∈ hs, h.Table = f i /\ h.bS = f (i + 1) := by
 induction h with
 | zero => exact fun t ht => ⟨fun _ => t, rfl, fun _ _ => ht, fun i hi => absurd hi (Nat.not_lt_zero i)⟩
 | @succ n cn dZ h1 h2 ih =>
   intro t ht
   obtain ⟨h, eK, ah, e2⟩ := h2.next t ht
   obtain ⟨f, f0, f1, f2⟩ := ih h.bS e2
   refine ⟨fun i => match i with | 0 => t | i + 1 => f i, rfl, fun i hi => ?_, fun i hi => ?_⟩
   · cases i with
     | zero => exact h1.sub t (h2.sub t ht)
     | succ i => exact f1 i (by omega)
   · cases i with
     | zero => exact ⟨h, eK, ah, f0.symm⟩
     | succ i => exact f2 i (by omega)
theorem G7 {α : Type} [BEq α] [LawfulBEq α] : ∀ {l k : List α}, l.Nodup -> (∀ x ∈ l, x ∈ k) -> l.length <= k.length
 | [], _, _, _ => cx _
 | a :: l, k, hn, hs => by
   obtain ⟨h1, h2⟩ := vj.1 hn
   have ao := hs a (by simp)
   have ih := G7 (l := l) (k := k.erase a) h2 fun x hx => (List.mem_erase_of_ne (fun e => h1 (by rw [<- e]; exact hx))).2 (hs x (by simp [hx]))
   rw [List.length_erase_of_mem ao] at ih
   have := List.length_pos_of_mem ao
   simp only [iv]; omega
theorem agp {f : Nat -> Int} {k : List Int} (h : ∀ i, i <= k.length -> f i ∈ k) : ∃ i j, i < j /\ j <= k.length /\ f i = f j := by
 refine Classical.byContradiction fun hc => ?_
 have hnd : ((List.range (k.length + 1)).map f).Nodup := by
  unfold List.Nodup
  rw [List.pairwise_map]
  refine List.pairwise_lt_range.imp_of_mem fun {a b} ao hb kL e => hc ⟨a, b, kL, ?_, e⟩
  have := JS.1 hb
  omega
 have := G7 hnd (k := k) fun x hx => by
  obtain ⟨i, hi, rfl⟩ := ey.1 hx
  have := JS.1 hi
  exact h i (by omega)
 simp at this
 omega
theorem agq {n : Nat} {a b : Int} : ∀ {a : Int}, fu hs n a b = true -> fu hs (n + 1) a b = true := by
 induction n with
 | zero => intro a h; simp only [fu] at h ⊢; simp [h]
 | succ n ih =>
   intro a h
   rw [fu, kG] at h ⊢
   rcases h with h | h
   · exact .inl h
   · refine .inr ?_
     obtain ⟨x, hx, h1⟩ := tg.1 h
     simp only [cd] at h1
     exact tg.2 ⟨x, hx, by simp only [cd]; exact ⟨h1.1, ih h1.2⟩⟩
theorem agr {n m : Nat} {a b : Int} (h : n <= m) (hl : fu hs n a b = true) : fu hs m a b = true := by
 induction h with
 | refl => exact hl
 | step _ ih => exact agq (a := a) ih
theorem Vr {f : Nat -> Int} {n : Nat} (h : ∀ i, i < n -> ∃ h ∈ hs, h.Table = f i /\ h.bS = f (i + 1)) : ∀ k a, a + k <= n -> fu hs k (f a) (f (a + k)) = true
 | 0, a, _ => by simp [fu]
 | k + 1, a, ai => by
   obtain ⟨x, hx, ah, e2⟩ := h a (by omega)
   have ih := Vr h k (a + 1) (by omega)
   rw [fu, kG]
   refine .inr (tg.2 ⟨x, hx, ?_⟩)
   rw [ah, e2]
   simp only [beq_self_eq_true, dt]
   rw [show a + (k + 1) = a + 1 + k by omega]; exact ih
theorem ags {n : Nat} {a b : Int} (kL : a ≠ b) (h : fu hs n a b = true) : ∃ x ∈ hs, x.Table = a /\ ∃ m, fu hs m x.bS b = true := by
 cases n with
 | zero => simp only [fu, beq_iff_eq] at h; exact absurd h kL
 | succ n =>
   rw [fu, kG] at h
   rcases h with h | h
   · exact absurd (eq_of_beq h) kL
   · obtain ⟨x, hx, h1⟩ := tg.1 h
     simp only [cd, beq_iff_eq] at h1
     exact ⟨x, hx, h1.1, n, h1.2⟩
theorem agt {N : Nat} {k : List Int} (hnd : ks.Nodup) (hm : ∀ t, t ∈ ks ↔ ∃ h ∈ hs, h.Table = t) (gT : ∀ h ∈ hs, 0 <= h.Table /\ h.Table < N) (hr : pB hs ks hs.length k) : decide (k.length = 0) = C3 hs N := by
 have xE : ks.length <= hs.length := by
  have := G7 hnd (k := hs.map (·.Table)) fun x hx => by
   obtain ⟨h, h1, h2⟩ := (hm x).1 hx
   exact ey.2 ⟨h, h1, h2⟩
  simpa using this
 have zG : ks.length <= N := by
  have := G7 hnd (k := (List.range N).map Int.ofNat) fun x hx => by
   obtain ⟨h, h1, rfl⟩ := (hm x).1 hx
   have := gT h h1
   exact ey.2 ⟨h.Table.toNat, JS.2 (by omega), by simp; omega⟩
  simpa using this
 rw [BA, decide_eq_true_iff]
 unfold C3
 rw [fo]
 constructor
 · intro h0 h eK
   have ai : k = [] := JE.1 h0
   cases hl : fu hs N h.bS h.Table with
   | false => rfl
   | true =>
     have ow : ∀ t, (∃ n, fu hs n t h.Table = true) -> ∃ x ∈ hs, x.Table = t /\ ∃ n, fu hs n x.bS h.Table = true := by
      rintro t ⟨n, hn⟩
      by_cases e : t = h.Table
      · exact ⟨h, eK, e.symm, N, hl⟩
      · exact ags e hn
     have := hr.ei (fun t => ∃ n, fu hs n t h.Table = true) (fun t ht => by
      obtain ⟨x, hx, e, -⟩ := ow t ht
      exact (hm t).2 ⟨x, hx, e⟩) ow h.Table ⟨0, by simp [fu]⟩
     rw [ai] at this; cases this
 · intro eo
   refine Classical.byContradiction fun bA => ?_
   obtain ⟨t, ht⟩ := List.exists_mem_of_length_pos (l := k) (by omega)
   obtain ⟨f, -, f1, f2⟩ := hr.walk t ht
   obtain ⟨i, j, cT, hj, e⟩ := agp (f := f) (k := ks) fun i hi => f1 i (by omega)
   obtain ⟨x, hx, ah, e2⟩ := f2 i (by omega)
   have hw := Vr (n := hs.length) f2 (j - (i + 1)) (i + 1) (by omega)
   rw [show i + 1 + (j - (i + 1)) = j by omega, <- e, <- ah, <- e2] at hw
   have := eo x hx
   rw [agr (m := N) (by omega) hw] at this
   cases this
end Go.Abs.U
