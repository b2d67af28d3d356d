/- Texts of this claim, joined and written short by a program. -/
import Derived.Test.YtjgngmpmjbkbpaaGreatDoorP10
import Derived.Test.YtjgngmpmjbkbpaaGreatDoorP00
set_option linter.unusedVariables false
set_option linter.unusedSimpArgs false
set_option linter.unusedSectionVars false
namespace Go.Abs
open Go
variable {C : Ctx} {fid : Nat -> Nat} {w w' : World} {G G' : bT} {H H' : Heap}
variable {vars : List Nat} {N : Nat} {ops : Array Oper} {bz : List b3} {call : c3} {S : Nat -> au} {a8 : Nat -> Bool}
structure Inv (C : Ctx) (fid : Nat -> Nat) (vars : List Nat) (N : Nat) (ops : Array Oper) (S : Nat -> au) (a8 : Nat -> Bool) (G : bT) (w : World) (a : Act) (nJ : Nat)
  (L : Array Bool) (k : Nat) (ax : bT) (al : Act) (aC : World) : Prop where
 size : L.size = ops.size
 closed : ∀ x, L.getD x false = true -> ∀ i, ((CheckFast.beforeF ops).getD x 0).testBit i = true -> L.getD i false = true
 tX : k <= ops.size
 qm : ∀ i, i < ops.size -> a8 i = true -> (L.getD i false = true ↔ i < k)
 rel : bb C fid ax (S k).H aC
 env : ∀ t m, m <= ops.size -> (∀ (i : Nat) o, ops[i]? = some o -> o.dst = some t -> (L.getD i false = true ↔ i < m)) -> bg fid ax aC (dD vars (S m) t) (al.tmps.getD t undef)
 ox : al.tmps.size = N
 defers : al.defers = a.defers
 ext : ∀ m, m <= (S ops.size).low -> Ext G w ax aC m nJ
theorem tY {L : Array Bool} {i j : Nat} (hj : j < L.size) : (L.setIfInBounds j true).getD i false = true ↔ i = j \/ L.getD i false = true := by
 by_cases h : i = j
 · subst h; simp [Array.getD, hj]
 · rw [getD_set_ne false (ki h)]; simp [h]
theorem abI {dK : List Nat} {wr : List Bool} (h : vn dK bz wr = true) {i j : Nat} {a1 : b3} (hi : wr[i]? = some true) (hj : bz[j]? = some a1) (ht : gm a1.op = true) (cT : i ≠ j) :
  if j < i then (dK.getD i 0).testBit j = true else (dK.getD j 0).testBit i = true := by
 unfold vn at h
 rw [if_pos (tg.2 ⟨true, fm hi, rfl⟩)] at h
 simp only [fo] at h
 have h1 := h (true, i) (ma.2 hi)
 simp only [fQ, tj, fo] at h1
 have h2 := h1 (a1, j) (ma.2 hj)
 simp only [ht, fQ, tj, kG, beq_iff_eq, cT, false_or] at h2
 split at h2
 · rename_i aH; rw [if_pos aH]; exact h2
 · rename_i aH; rw [if_neg aH]; exact h2
theorem F2 {dK : List Nat} {i j : Nat} : qT dK i j = true ↔ (if j < i then (dK.getD i 0).testBit j = true else (dK.getD j 0).testBit i = true) := by
 unfold qT
 split <;> rfl
theorem abJ {dK : List Nat} {wr : List Bool} (h : JW dK wr = true) {i j : Nat} (hi : wr[i]? = some true) (hj : wr[j]? = some true) (cT : i ≠ j) : qT dK i j = true := by
 unfold JW at h
 simp only [fo] at h
 have h1 := h (true, i) (ma.2 hi)
 simp only [fQ, tj, fo] at h1
 have h2 := h1 (true, j) (ma.2 hj)
 simpa [cT] using h2
theorem abK {dK : List Nat} {ops : List b3} {wr : List Bool} {cB : List au} {o : b3} {j k : Nat} {Fp BH : au} (ho : ops[j]? = some o) (ht : gm o.op = true) (hw : wr.getD j false = false) (hj : cB[j]? = some Fp) (ai : cB[k]? = some BH)
  (vJ : k ≠ j) (Li : k = 0 \/ wr.getD (k - 1) false = true) (lW : ∀ i, wr[i]? = some true -> i ≠ j -> qT dK i j = true -> (i < j ↔ i < k)) : (o, Fp, BH.H) ∈ JX dK ops wr cB := by
 unfold JX
 simp only [PO]
 refine ⟨(o, j), ma.2 ho, ?_⟩
 simp only [ht, fQ, hw, Bool.or_self, gX, if_false, PO]
 refine ⟨(BH, k), ma.2 ai, ?_⟩
 simp only
 rw [if_neg]
 · rw [hj]; simp
 · intro h
   simp only [kG, beq_iff_eq, vJ, false_or, cd, bne_iff_ne, ne_eq, pZ] at h
   rcases h with h | h
   · rcases Li with h0 | h0
     · exact h.1 h0
     · rw [h0] at h; cases h.2
   rw [tg] at h
   obtain ⟨⟨w, i⟩, hm, h⟩ := h
   simp only [cd, bne_iff_ne, ne_eq] at h
   obtain ⟨h1, h2, av, bc⟩ := h
   have hi := ma.1 hm
   simp only at hi
   rw [h1] at hi
   have := lW i hi h2 av
   apply bc
   rw [decide_eq_decide]
   exact this
theorem RA (a8 : Nat -> Bool) : ∀ (k : Nat), ∃ bs, bs <= k /\ (bs = 0 \/ a8 (bs - 1) = true) /\ ∀ x, bs <= x -> x < k -> a8 x = false
 | 0 => ⟨0, aK _, .inl rfl, fun x h1 h2 => by omega⟩
 | k + 1 => by
   cases ae : a8 k with
   | true => exact ⟨k + 1, aK _, .inr ae, fun x h1 h2 => by omega⟩
   | false =>
     obtain ⟨bs, h1, h2, av⟩ := RA a8 k
     refine ⟨bs, by omega, h2, fun x q1 aS => ?_⟩
     by_cases hx : x = k
     · rw [hx]; exact ae
     · exact av x q1 (by omega)
theorem abL {id : Nat} {st aU : au} {wr : List Bool} {a : Act} {Q : Exit -> Act -> World -> Prop} {ro : Option Nat} (cC : C.P.follows .mixedOrders = true) (bx : eR C fid) (bj : gx C fid call)
  (hm : dH (C.oper vars N ops) ops.toList = some bz) (jo : Ctx.w7 ops = true) (ll : Ctx.w8 ops = true) (ql : (ops.toList.zip bz).all (fun (o, a) => Ctx.vr ops o a) = true)
  (he : c9 call bz { st with aE := [] } [] = some (aU, wr)) (hin : (vn (CheckFast.beforeF ops).toList bz wr || sb call (CheckFast.beforeF ops).toList bz wr { st with aE := [] }) = true) (aa : dx C fid vars N G st a w)
  (dy : ∀ G' bf w', dx C fid vars N G' aU bf w' -> (∀ m, m <= aU.low -> Ext G w G' w' m st.H.length) -> bf.defers = a.defers -> Q .normal bf w') :
  (Code.region id ops true).wpIn (ek ro) 0 C.P Q a w := by
 obtain ⟨S, a8, h0, hn, ml, hs⟩ := vI _ _ _ _ _ he
 have T : j5 C vars N ops bz call S a8 := .of hm hs
 rw [T.len] at hn ml
 simp only [List.reverse_nil, oZ] at ml
 have lS : ∀ i, (CheckFast.beforeF ops).toList.getD i 0 = (CheckFast.beforeF ops).getD i 0 := fun i => by
  rw [Bu, iK, ve]
 have xC : ∀ i j, (if j < i then ((CheckFast.beforeF ops).toList.getD i 0).testBit j = true else ((CheckFast.beforeF ops).toList.getD j 0).testBit i = true) -> ((CheckFast.beforeF ops).getD (max i j) 0).testBit (min i j) = true := fun i j this => by
  rw [lS, lS] at this
  split at this
  · rw [Fj (by omega), ti (by omega)]; exact this
  · rw [Fg (by omega), nv (by omega)]; exact this
 have aqS : ∀ i j, ((CheckFast.beforeF ops).getD (max i j) 0).testBit (min i j) = true \/ qT (CheckFast.beforeF ops).toList i j = false := fun i j => by
  cases ho : qT (CheckFast.beforeF ops).toList i j with
  | false => exact .inr rfl
  | true => exact .inl (xC i j (F2.1 ho))
 have F3 : (∀ i, i < ops.size -> a8 i = true -> ∀ (j : Nat) a1, bz[j]? = some a1 -> gm a1.op = true -> i ≠ j -> ((CheckFast.beforeF ops).getD (max i j) 0).testBit (min i j) = true) \/
   ((∀ i, i < ops.size -> a8 i = true -> ∀ j, j < ops.size -> a8 j = true -> i ≠ j -> ((CheckFast.beforeF ops).getD (max i j) 0).testBit (min i j) = true) /\
    ∀ (j : Nat) a1 k, bz[j]? = some a1 -> j < ops.size -> k <= ops.size -> gm a1.op = true -> a8 j = false -> (∀ i, i < ops.size -> a8 i = true -> i ≠ j -> ((CheckFast.beforeF ops).getD (max i j) 0).testBit (min i j) = true -> (i < j ↔ i < k)) -> (S k).H = (S j).H \/ kk call (a1, S j, (S k).H) = true) := by
  rw [kG] at hin
  rcases hin with hin | hin
  · left
    intro i hi ae j a1 hj ht cT
    exact xC i j (abI hin (i := i) (by rw [ml]; simp [hi, ae]) hj ht cT)
  · right
    unfold sb at hin
    split at hin
    · rename_i cB sx
      simp only [cd] at hin
      rw [<- h0] at sx
      have vw := K9 bz S a8 cB hs sx
      rw [T.len] at vw
      refine ⟨fun i hi ae j hj h8 cT => xC i j (F2.1 (abJ hin.1 (i := i) (j := j) (by rw [ml]; simp [hi, ae]) (by rw [ml]; simp [hj, h8]) cT)), fun j a1 k hj hM ai ht h8 lW => ?_⟩
      obtain ⟨bs, hk', q8, Lj⟩ := RA a8 k
      have RB : (S k).H = (S bs).H := by
       obtain ⟨d, rfl⟩ := n3 hk'
       exact T.heap bj.bN (by omega) fun x h1 h2 => Lj x h1 h2
      by_cases vJ : bs = j
      · left; rw [RB, vJ]
      right
      rw [RB]
      have Li : bs = 0 \/ wr.getD (bs - 1) false = true := by
       rcases Nat.eq_zero_or_pos bs with q | q
       · exact .inl q
       · rcases q8 with q' | q'
         · omega
         · right
           rw [ml, Bu, kh, List.getElem?_range (by omega : bs - 1 < ops.size)]
           exact q'
      have dn := abK (dK := (CheckFast.beforeF ops).toList) (ops := bz) (wr := wr) (cB := cB) (o := a1) (j := j) (k := bs) hj ht (by rw [ml]; simp [hM, h8]) (vw j (by omega)) (vw bs (by omega)) vJ Li (fun i hi cT ho => by
       have Lk : i < ops.size := by
        rcases gg i ops.size with h | h
        · exact h
        · rw [ml, mF (by simpa using h)] at hi; cases hi
       have q9 : a8 i = true := by rw [ml] at hi; simpa [Lk] using hi
       refine (lW i Lk q9 cT (xC i j (F2.1 ho))).trans ⟨fun h => ?_, fun h => by omega⟩
       rcases gg i bs with q | q
       · exact q
       · rw [Lj i q h] at q9; cases q9)
      exact fo.1 hin.2 _ dn
    · cases hin
 have nK : st.H = (S 0).H /\ st.low = (S 0).low := by rw [h0]; exact ⟨rfl, rfl⟩
 have Cg : st.low <= st.H.length := aa.low
 have mU : ∀ L k ax al aC, Inv C fid vars N ops S a8 G w a st.H.length L k ax al aC -> (∀ i, i < ops.size -> L.getD i false = true) -> Q .normal al aC := by
  intro L k ax al aC I eo
  have ai : (S ops.size).H = (S k).H := by
   obtain ⟨d, hd⟩ := n3 I.tX
   rw [hd]
   refine T.heap bj.bN (by omega) fun x h1 h2 => ?_
   cases ae : a8 x with
   | false => rfl
   | true => have := (I.qm x (by omega) ae).1 (eo x (by omega)); omega
  refine dy ax al aC ?_ (fun m hm => I.ext m (by rw [hn]; exact hm)) I.defers
  rw [<- hn]
  refine ⟨by rw [ai]; exact I.rel, fun t => I.env t ops.size (aK _) fun i o ho _ => ?_, I.ox, ?_⟩
  · have : i < ops.size := (r1.1 ho).1
    simp [this, eo i this]
  · exact (T.mj bj.bN (cx _) (aK _)).bound (by rw [<- nK.1, <- nK.2]; exact Cg)
 have Ch : ∀ L k ax al aC, Inv C fid vars N ops S a8 G w a st.H.length L k ax al aC -> Region.ready .any ops L = [] -> ∀ i, i < ops.size -> L.getD i false = true := by
  intro L k ax al aC I hr i
  induction i using Nat.strongRecOn with
  | _ i ih =>
    intro hi
    cases dT : L.getD i false with
    | true => rfl
    | false =>
      exfalso
      have : i ∈ Region.ready .any ops L := mem_ready.2 ⟨by
       have : i < L.size := by rw [I.size]; exact hi
       simp only [Array.getD, this, dif_pos] at dT ⊢; exact dT, ops[i], by simp [hi], fun e he hb => by
        have aH := Lg jo (j := i) (o := ops[i]) (by simp [hi]) he hb
        exact ih e.on aH (by omega)⟩
      rw [hr] at this; cases this
 have sg : ∀ (fuel : Nat) (L : Array Bool) (k : Nat) (ax : bT) (al : Act) (aC : World) (j : Nat), Inv C fid vars N ops S a8 G w a st.H.length L k ax al aC -> j ∈ Region.ready .any ops L ->
   (∀ gS bs G' bf w', Inv C fid vars N ops S a8 G w a st.H.length gS bs G' bf w' -> gS = L.setIfInBounds j true -> wpAnyIn (ek ro) 0 C.P .any ops Q fuel gS bf w') ->
   wpOpIn (ek ro) 0 C.P ops Q j (wpAnyIn (ek ro) 0 C.P .any ops Q fuel (L.setIfInBounds j true)) al aC := by
  intro fuel L k ax al aC j I hj vK
  obtain ⟨vL, o, ho, Ci⟩ := mem_ready.1 hj
  have hM : j < ops.size := (r1.1 ho).1
  have kN : j < L.size := by rw [I.size]; exact hM
  have nz : L.getD j false = false := by simp only [Array.getD, kN, dif_pos] at vL ⊢; exact vL
  obtain ⟨o', a1, j0, fF, bd, cp⟩ := T.get hM
  rw [ho] at j0; cases j0
  have vM : ∀ i, ((CheckFast.beforeF ops).getD j 0).testBit i = true -> L.getD i false = true := fun i hb => by
   obtain ⟨e, lj, mf, oy⟩ := Le ho hb
   have hl := Ci e lj mf
   rcases oy with rfl | oy
   · exact hl
   · exact I.closed e.on hl i oy
  have lW : ∀ i, i ≠ j -> ((CheckFast.beforeF ops).getD (max i j) 0).testBit (min i j) = true -> (L.getD i false = true ↔ i < j) := by
   intro i cT hb
   rcases gg i j with aH | hge
   · rw [Fg (by omega), nv (by omega)] at hb
     exact ⟨fun _ => aH, fun _ => vM i hb⟩
   · rw [Fj hge, ti hge] at hb
     refine ⟨fun dT => ?_, fun h => by omega⟩
     have := I.closed i dT j hb
     rw [nz] at this; cases this
  have RC : a8 j = true -> ∀ i, i < ops.size -> a8 i = true -> i ≠ j -> (L.getD i false = true ↔ i < j) := fun h8 i hi ae cT => lW i cT (by
   rcases F3 with hc | ⟨hc, -⟩
   · exact hc i hi ae j a1 fF (cp.gm h8) cT
   · exact hc i hi ae j hM h8 cT)
  have vN : ∀ t, (o.dst = some t \/ t ∈ Ctx.fq ops o) -> ∀ (i : Nat) p, ops[i]? = some p -> p.dst = some t -> i ≠ j -> (L.getD i false = true ↔ i < j) := fun t ht i p hp hd cT =>
   lW i cT (Lf ll ho hp hd cT ht)
  have ra : (∀ i, i < ops.size -> a8 i = true -> i ≠ j -> (L.getD i false = true ↔ i < j)) -> (S k).H = (S j).H := by
   intro Cj
   have ai := I.tX
   rcases Nat.le_total k j with vJ | Ll
   · obtain ⟨d, rfl⟩ := n3 vJ
     refine (T.heap bj.bN (by omega) fun x h1 h2 => ?_).symm
     cases ae : a8 x with
     | false => rfl
     | true =>
       have al := (Cj x (by omega) ae (by omega)).2 (by omega)
       have a2 := (I.qm x (by omega) ae).1 al
       omega
   · obtain ⟨d, rfl⟩ := n3 Ll
     refine T.heap bj.bN (by omega) fun x h1 h2 => ?_
     cases ae : a8 x with
     | false => rfl
     | true =>
       have a2 := (I.qm x (by omega) ae).2 (by omega)
       by_cases hx : x = j
       · subst hx; rw [nz] at a2; cases a2
       · have := (Cj x (by omega) ae hx).1 a2; omega
  have Lm : gm a1.op = true -> (S k).H = (S j).H \/ (a8 j = false /\ (gP (S j).aE (S j).aw a1.guard = some true -> ∀ v H1 b0, b9 call (aj.ag (S j).aE (S j).aw) (S j).H (S j).H.length a1.op = some (v, H1, b0) -> ∃ H2 dv, b9 call (aj.ag (S j).aE (S j).aw) (S k).H (S k).H.length a1.op = some (v, H2, dv) /\ fJ (S k).H H2 dv = false)) := by
   intro ht
   rcases F3 with hc | ⟨-, hc⟩
   · exact .inl (ra fun i hi ae cT => lW i cT (hc i hi ae j a1 fF ht cT))
   · cases h8 : a8 j with
     | true => exact .inl (ra (RC h8))
     | false =>
       rcases hc j a1 k fF hM I.tX ht h8 (fun i hi ae cT hb => by
        rw [<- lW i cT hb]; exact I.qm i hi ae) with mm | mm
       · exact .inl mm
       refine .inr ⟨rfl, fun hw v H1 b0 h1 => ?_⟩
       unfold kk at mm
       simp only [hw, h1] at mm
       split at mm
       · rename_i v' H2 dv h2
         simp only [cd, pZ] at mm
         have := tV _ _ mm.1
         subst this
         exact ⟨H2, dv, h2, mm.2⟩
       · cases mm
  have eT := cp.bN bj.bN
  have Ln : (S j).low <= (S k).H.length := by
   have ah := (T.mj bj.bN (i := 0) (j := j) (cx _) (by omega)).1.low
   have e2 := (T.mj bj.bN (i := 0) (j := k) (cx _) I.tX).1.len
   rw [<- nK.2] at ah; rw [<- nK.1] at e2
   omega
  have zX : ∀ x ∈ a1.op.operands, F0 (fun t => t ∈ Ctx.fq ops o) x := by
   intro x hx
   have h1 : (o, a1) ∈ ops.toList.zip bz := nu.2 ⟨j, by rw [zl]; exact ⟨by rw [iK]; exact ho, fF⟩⟩
   have h2 := fo.1 ql _ h1
   simp only [Ctx.vr, fo] at h2
   have av := h2 x hx
   cases x with
   | tmp t => exact tf.1 av
   | var t => exact tf.1 av
   | const v => trivial
   | func i => trivial
  refine xx (T := fun t => t ∈ Ctx.fq ops o) bx bj ho bd cp I.rel Lm Ln (fun t ht => ?_) zX (fun q want d bt hd => ?_) I.ox ?_
  · refine I.env t j (by omega) fun i p hp hd => ?_
    by_cases cT : i = j
    · subst cT; simp [nz]
    · exact vN t (.inr ht) i p hp hd cT
  · simp only [Ctx.fq, jV]
    right
    rw [bt]
    simp only []
    rw [hd]; simp
  · intro x bB bq p1 p2 p3
    have mT := p2 0 (cx _)
    have j6 : ∀ i, (L.setIfInBounds j true).getD i false = true ↔ i = j \/ L.getD i false = true := fun i => tY kN
    refine vK _ (if a8 j then j + 1 else k) bq _ bB ⟨by simp [I.size], fun x hx i hb => ?_, ?_, fun i hi ae => ?_, ?_, fun t m hm en => ?_, by rw [vH]; exact I.ox, by rw [put_defers]; exact I.defers, fun m hm => ?_⟩ rfl
    · rw [j6] at hx ⊢
      rcases hx with rfl | hx
      · exact .inr (vM i hb)
      · exact .inr (I.closed x hx i hb)
    · split
      · omega
      · exact I.tX
    · rw [j6]
      by_cases cT : i = j
      · subst cT; simp [ae]
      · cases h8 : a8 j with
        | true =>
          have := RC h8 i hi ae cT
          simp only [cT, false_or, if_true]
          rw [this]; omega
        | false => simp only [cT, false_or, gX, if_false]; exact I.qm i hi ae
    · cases h8 : a8 j with
      | true => rw [h8] at p1; exact p1
      | false => rw [h8] at p1; exact p1
    · refine xz (fun d hd => by rw [I.ox]; exact bd.lt d hd) (fun h => ?_) (fun h => ?_)
      · have Ck : j < m := (en j o ho h).1 ((j6 j).2 (.inl rfl))
        have e : dD vars (S m) t = dD vars (S (j + 1)) t := by
         obtain ⟨d, rfl⟩ := n3 (show j + 1 <= m from Ck)
         refine T.slot (by omega) fun x p h1 h2 hp hd => ?_
         have vO : x ≠ j := by omega
         have al := (j6 x).1 ((en x p hp hd).2 h2)
         have a2 := (vN t (.inl h) x p hp hd vO).1 (al.resolve_left vO)
         omega
        rw [e]; exact p3 t h
      · refine (I.env t m hm fun i p hp hd => ?_).ext I.rel mT
        have cT : i ≠ j := fun e => by subst e; rw [ho] at hp; cases hp; exact h hd
        rw [<- en i p hp hd, j6]
        simp [cT]
    · have ah := (T.mj bj.bN (i := j + 1) (j := ops.size) hM (aK _)).1.low
      have e2 := (T.mj bj.bN (i := 0) (j := k) (cx _) I.tX).1.len
      rw [<- nK.1] at e2
      exact (I.ext m hm).trans ((p2 m (by omega)).le (aK _) e2)
 have key : ∀ (fuel : Nat) (L : Array Bool) (k : Nat) (ax : bT) (al : Act) (aC : World), Inv C fid vars N ops S a8 G w a st.H.length L k ax al aC -> (List.range ops.size).countP (fun i => !L.getD i false) <= fuel ->
   wpAnyIn (ek ro) 0 C.P .any ops Q fuel L al aC := by
  intro fuel
  induction fuel with
  | zero =>
    intro L k ax al aC I hc
    have eo : ∀ i, i < ops.size -> L.getD i false = true := fun i hi => by
      have h1 := List.countP_eq_zero.1 (Nat.le_zero.1 hc) i (by simpa using hi)
      simpa using h1
    refine ⟨?_, mU _ _ _ _ _ I eo⟩
    cases hr : Region.ready .any ops L with
    | nil => rfl
    | cons i r =>
      obtain ⟨h1, o, ho, -⟩ := mem_ready.1 (show i ∈ Region.ready .any ops L by rw [hr]; simp)
      have hi : i < ops.size := (r1.1 ho).1
      have h2 := eo i hi
      have : i < L.size := by rw [I.size]; exact hi
      simp only [Array.getD, this, dif_pos] at h1 h2
      rw [h1] at h2; cases h2
  | succ fuel ih =>
    intro L k ax al aC I hc
    refine ⟨fun hr => mU _ _ _ _ _ I (Ch _ _ _ _ _ I hr), fun j hj => sg fuel L k ax al aC j I hj fun gS bs G' bf w' qd e => ih gS bs G' bf w' qd ?_⟩
    subst e
    obtain ⟨h1, o, ho, -⟩ := mem_ready.1 hj
    have hM : j < ops.size := (r1.1 ho).1
    have kN : j < L.size := by rw [I.size]; exact hM
    have aH : (List.range ops.size).countP (fun i => !(L.setIfInBounds j true).getD i false) < (List.range ops.size).countP (fun i => !L.getD i false) := by
      refine Lh (a := j) (fun x _ hx => ?_) (by simpa using hM) ?_ ?_
      · cases af : L.getD x false with
        | false => rfl
        | true =>
          have := (tY (i := x) kN).2 (.inr af)
          rw [this] at hx; cases hx
      · simp only [Array.getD, kN, dif_pos] at h1 ⊢; rw [h1]; rfl
      · have := (tY (i := j) kN).2 (.inl rfl)
        rw [this]; rfl
    omega
 refine wpIn_region_any cC ?_
 have hw : ({ w with drawn := w.drawn + 1 } : World).heap = w.heap := rfl
 have iA := (aa.clear).la hw
 rw [<- h0] at iA
 have iV : ∀ i, (Array.replicate ops.size false).getD i false = false := fun i => by
  by_cases h : i < ops.size
  · simp [h]
  · simp [h]
 refine key ops.size (Array.replicate ops.size false) 0 G a { w with drawn := w.drawn + 1 } ⟨by simp, fun x hx => absurd hx (by rw [iV]; simp), cx _, fun i hi ae => by rw [iV]; simp, iA.rel, fun t m hm en => ?_, iA.size, rfl, fun m _ => Ext.la hw rfl rfl m _⟩ ?_
 · have e : dD vars (S m) t = dD vars (S 0) t := by
    have := T.slot (t := t) (i := 0) (k := m) (by omega) fun x p h1 h2 hp hd => by
      have := (en x p hp hd).2 (by omega)
      rw [iV] at this; cases this
    rw [eF] at this; exact this
   rw [e]; exact iA.env t
 · refine c4 List.countP_le_length (by simp)
end Go.Abs
