/- Texts of this claim, joined and written short by a program. -/
import Derived.Test.YtaenhebjdjpdgaaGreatDoorP32
import Derived.Test.YtaenhebjdjpdgaaGreatDoorP29
import Derived.Test.YtaenhebjdjpdgaaGreatDoorP30
import Derived.Test.YtaenhebjdjpdgaaGreatDoorP11
import Derived.Test.YtaenhebjdjpdgaaGreatDoorP00
set_option linter.unusedVariables false
set_option linter.unusedSimpArgs false
set_option linter.unusedSectionVars false
namespace Go.Abs.b1
open Go Go.Abs
noncomputable section
structure pU (hs : List fN) (ks : List Int) (d : List V) (k : List Int) : Prop where
 dE : k.Nodup
 sub : ∀ t ∈ k, t ∈ ks
 next : ∀ t ∈ k, aI t ∈ d -> ∃ h ∈ hs, h.Table = t /\ h.bS ∈ ks
 ei : ∀ K : Int -> Prop, (∀ t, K t -> t ∈ ks) -> (∀ t, K t -> ∃ h ∈ hs, h.Table = t /\ K h.bS) -> ∀ t, K t -> t ∈ k
theorem pU.start {hs : List fN} {ks : List Int} (h : ks.Nodup) : pU hs ks [] ks := ⟨h, fun _ h => h, fun t _ h => (by cases h), fun _ h _ => h⟩
theorem pU.stay {hs : List fN} {ks k : List Int} {d : List V} (h : pU hs ks d k) {t : Int} (bD : (hs.any fun h => (h.Table == t) && decide (h.bS ∈ k)) = true) : pU hs ks (d ++ [aI t]) k := by
 refine ⟨h.dE, h.sub, fun u hu hd => ?_, h.ei⟩
 rcases jV.1 hd with hd | hd
 · exact h.next u hu hd
 · simp only [dS, w0, or_false, V.int.injEq, true_and] at hd
   subst hd
   obtain ⟨x, hx, h1⟩ := tg.1 bD
   simp only [cd, beq_iff_eq, decide_eq_true_eq] at h1
   exact ⟨x, hx, h1.1, h.sub _ h1.2⟩
theorem pU.gone {hs : List fN} {ks k : List Int} {d : List V} (h : pU hs ks d k) {t : Int} (bD : (hs.any fun h => (h.Table == t) && decide (h.bS ∈ k)) = false) : pU hs ks (d ++ [aI t]) (k.erase t) := by
 refine ⟨h.dE.erase t, fun u hu => h.sub u (List.mem_of_mem_erase hu), fun u hu hd => ?_, fun K h1 h2 u hu => ?_⟩
 · have OT : u ≠ t := fun e => by subst e; exact (List.Nodup.not_mem_erase h.dE) hu
   rcases jV.1 hd with hd | hd
   · exact h.next u (List.mem_of_mem_erase hu) hd
   · simp only [dS, w0, or_false, V.int.injEq, true_and] at hd
     exact absurd hd OT
 · have ai := h.ei K h1 h2
   have OT : u ≠ t := fun e => by
    subst e
    obtain ⟨x, hx, ah, e2⟩ := h2 u hu
    have := List.any_eq_false.1 bD x hx
    simp [ah, ai _ e2] at this
   exact (List.mem_erase_of_ne OT).2 (ai u hu)
theorem pU.fin {hs : List fN} {ks k : List Int} {d : List V} (h : pU hs ks d k) (ao : ∀ t ∈ k, aI t ∈ d) : C4 hs ks k := ⟨h.sub, h.dE, fun t ht => h.next t ht (ao t ht), h.ei⟩
variable {C : Ctx} {fid : Nat -> Nat} {vars : List Nat} {N : Nat} {ad : Nat -> Option ca}
structure rW (j : dJ) (al ew l : Nat) (ts : List Nat) (vs : List V) (ks : List Int) (b : Nat) (s : au) : Prop where
 aE : s.aE = []
 ro : s.ro = none
 ok : ∃ σ, Fits s.aw σ /\ At σ (1 :: 7 :: ts) (.ptr al 0 :: .ptr ew 0 :: vs)
 own : Own s.H [[(ew, .cells [.map l])], [(l, .map (ga aI V.bool (cB ks)))], [(al, .cells (jg j))]]
 len : b <= s.H.length
theorem Bm {s : au} (h1 : s.aE = []) (h2 : s.ro = none) : s = ⟨[], s.aw, s.H, s.low, none⟩ := by cases s; simp_all
theorem alZ (rT : ad 79 = some (.code Ba)) (mV : yQ ad) {j : dJ} (hl : j.Model.bn.l.length <= 12) {al ew l li : Nat} {ts : List Nat} {vs : List V} {ks k : List Int} {d : List V} {s : au} (ht : ∀ t ∈ ts, t ≠ 10 /\ t ≠ 122 /\ t ≠ 130) (asm : l < li)
  (hs : rW j al ew l (120 :: ts) (.ptr li 0 :: vs) k (li + 1) s) (hp : pU j.Model.bn.l ks d k) {kv : V × V} (kP : kv ∈ ga aI V.bool (cB k)) :
  Of aa kQ ad l li (ga aI V.bool (cB k)) kv s fun bC ar => ∃ bs, bC = ga aI V.bool (cB bs) /\ rW j al ew l (120 :: ts) (.ptr li 0 :: vs) bs (li + 1) ar /\ pU j.Model.bn.l ks (d ++ [kv.1]) bs := by
 obtain ⟨t, EU, rfl⟩ : ∃ t ∈ k, kv = (aI t, .bool true) := by
  unfold ga cB at kP
  rw [qR] at kP
  obtain ⟨t, h1, h2⟩ := ey.1 kP
  exact ⟨t, h1, h2.symm⟩
 obtain ⟨EV, EW, ⟨σ, ae, hB⟩, aD, hlen⟩ := hs
 rw [Bm EV EW]
 have g1 : σ 1 = .ptr al 0 := (et hB).1
 have g7 : σ 7 = .ptr ew 0 := (et (et hB).2).1
 have OU : σ 120 = .ptr li 0 := (et (et (et hB).2).2).1
 have OV : ts.map σ = vs := (et (et (et hB).2).2).2
 obtain ⟨Aq, H2, dv, kT, q1, aS, bZ, cR, mz, e8, hC, nM⟩ := aj7 (ad := ad) (R := aa) (b := li + 1) (kv := (aI t, .bool true)) (σ := σ) (H := s.H) (li := li) (low := s.low)
  (Q := fun a7 H' => ∃ mz, a7 10 = .ptr mz 0 /\ (∀ x, x ≠ 10 -> x ≠ 122 -> a7 x = σ x) /\ Own H' [[(mz, .cells [aI t])], [(ew, .cells [.map l])], [(l, .map (ga aI V.bool (cB k)))], [(al, .cells (jg j))]])
  OU (pp (.bool true) <| fZ ⟨rfl, by
   show up σ 122 (.bool true) 120 = _
   rw [iE _ _ (by decide)]; exact OU, pp (aI t) <| x4 rfl aD fun H' mz hb sK => x5 (vs := [aI t]) (cs' := [aI t]) rfl sK 0 rfl hb rfl rfl ⟨rfl, aK _⟩ (by simp [b4]) rfl fun Fo al0 => fZ ⟨mz, rfl, fun x hx W4 => by
    show up (up σ 122 (.bool true)) 10 (.ptr mz 0) x = _
    rw [iE _ _ hx, iE _ _ W4], al0⟩⟩) ae hlen
 have al1 := alY j hl t k
 obtain ⟨dd, wN, rR, Jm, rX, bG, ch, eL, gq, rfl, rfl, rfl⟩ := akI (ad := ad) (b := li + 1) (σ := kT) (H := H2) rT mV (ts := []) (vs := []) nM (by
  show [kT 1, kT 7, kT 10] = _
  rw [hC 1 (by decide) (by decide), hC 7 (by decide) (by decide), e8, g1, g7]) al1 Aq dv aS bZ cR
 refine ⟨_, _, q1, bG, eL, ?_⟩
 have u7 : ∀ (a7 : cb), (∀ x, x ≠ 10 -> x ≠ 122 -> x ≠ 130 -> a7 x = σ x) -> At a7 (1 :: 7 :: 120 :: ts) (.ptr al 0 :: .ptr ew 0 :: .ptr li 0 :: vs) := fun a7 h => by
  show _ :: _ :: _ :: List.map a7 ts = _
  rw [h 1 (by decide) (by decide) (by decide), h 7 (by decide) (by decide) (by decide), h 120 (by decide) (by decide) (by decide), g1, g7, OU, <- OV]
  congr 3
  exact pX fun x hx => h x (ht x hx).1 (ht x hx).2.1 (ht x hx).2.2
 have zV : (bJ wN 130) = .bool (!(j.Model.bn.l.any fun h => (h.Table == t) && decide (h.bS ∈ k))) := by rw [ch, uB]
 cases hc : (j.Model.bn.l.any fun h => (h.Table == t) && decide (h.bS ∈ k)) with
 | true =>
   refine .inl ⟨?_, k, rfl, ⟨rfl, rfl, ⟨_, ch, u7 _ fun x h1 h2 av => ?_⟩, nM.drop 0, cR⟩, hp.stay hc⟩
   · show bJ wN 130 = _
     rw [zV, hc]; rfl
   · rw [iE _ _ av, hC x h1 h2]
 | false =>
   have v7 : bJ wN 7 = .ptr ew 0 := by rw [ch, iE _ _ (by decide), hC 7 (by decide) (by decide), g7]
   have al2 : bJ wN 10 = .ptr mz 0 := by rw [ch, iE _ _ (by decide), e8]
   have f7 := nM.get 1 rfl
   have f10 := nM.get 0 rfl
   have a8 := nM.get 2 rfl
   have hex : c9 (cK ad) I7 ⟨[], wN, rR, Jm, none⟩ [] = some (⟨[(132, aI t), (131, .map l)], wN, rR, min (min Jm rR.length) rR.length, none⟩, [false, false]) := by
    simp [I7, c9, gP, nb, jk, hJ, aj.ag, v7, al2, f7, f10, au.put, lZ]
   refine .inr ⟨?_, _, _, _, hex, by show li < min (min Jm rR.length) rR.length; omega, rfl, CX (gb := V.bool) CW t (cB k), k.erase t, OS t k, ⟨rfl, rfl, ⟨_, ch, u7 _ fun x h1 h2 av => ?_⟩, ?_, ?_⟩, hp.gone hc⟩
   · show bJ wN 130 = _
     rw [zV, hc]; rfl
   · rw [iE _ _ av, hC x h1 h2]
   · have := nM.put 2 (a := l) (o := .map (ga aI V.bool (cB k))) (o' := .map (ga aI V.bool (cB (k.erase t)))) rfl
     have h2 := this.drop 0
     show Own (rR.set l (.map (hY 0 (aI t) (ga aI V.bool (cB k))))) _
     rw [OS]; exact h2
   · show li + 1 <= (rR.set l _).length
     rw [zo]; exact cR
theorem al3 (cC : C.P.follows .mixedOrders = true) (bx : eR C fid) (bj : gx C fid (cK ad)) {qK : Code} (hr : xU C vars N qK = some aa) (hd : Be C vars N (I5 qK) = some kQ) (rT : ad 79 = some (.code Ba)) (mV : yQ ad)
  {j : dJ} (hl : j.Model.bn.l.length <= 12) {al ew l : Nat} {ts : List Nat} {vs : List V} {ks : List Int} {s : au} (hnd : ks.Nodup) (ht : ∀ t ∈ ts, t ≠ 10 /\ t ≠ 122 /\ t ≠ 130 /\ t ≠ 120) (hs : rW j al ew l ts vs ks 0 s) :
  c1 C fid vars N qK s fun x ar => x = .normal /\ ∃ bs, C4 j.Model.bn.l ks bs /\ rW j al ew l ts vs bs 0 ar := by
 obtain ⟨EV, EW, ⟨σ, ae, hB⟩, aD, hlen⟩ := hs
 have g1 : σ 1 = .ptr al 0 := (et hB).1
 have g7 : σ 7 = .ptr ew 0 := (et (et hB).2).1
 have OV : ts.map σ = vs := (et (et hB).2).2
 have f7 := aD.get 0 rfl
 have a8 := aD.get 1 rfl
 have iZ := x2 a8
 rw [Bm EV EW]
 have v7 : bJ s.aw 7 = .ptr ew 0 := by rw [ae]; exact g7
 have hex : c9 (cK ad) aa.t0 ⟨[], s.aw, s.H, s.low, none⟩ [] = some (⟨[(119, .map l)], s.aw, s.H, min s.low s.H.length, none⟩, [false]) := by
  simp [aa, c9, gP, nb, jk, hJ, aj.ag, v7, f7, au.put, lZ]
 refine (c1.aj5 cC bx bj hr hd (iC := ⟨[], s.aw, s.H, s.low, none⟩) hex (l := l) (bk := ga aI V.bool (cB ks)) rfl a8
  (fun d es ar => ∃ bs, es = ga aI V.bool (cB bs) /\ rW j al ew l (120 :: ts) (.ptr s.H.length 0 :: vs) bs (s.H.length + 1) ar /\ pU j.Model.bn.l ks d bs)
  (fun es ar => ∃ bs, C4 j.Model.bn.l ks bs /\ rW j al ew l ts vs bs 0 ar) ⟨ks, rfl, ⟨rfl, rfl, ⟨_, UN ae 120 (.ptr s.H.length 0), ?_⟩, ⟨fun m hm p hp => ?_, aD.2⟩, ?_⟩, .start hnd⟩ ?_ ?_ ?_).mono ?_
 · show up σ 120 (.ptr s.H.length 0) 1 :: up σ 120 (.ptr s.H.length 0) 7 :: up σ 120 (.ptr s.H.length 0) 120 :: List.map (up σ 120 (.ptr s.H.length 0)) ts = _
   rw [iE _ _ (by decide), iE _ _ (by decide), uB, g1, g7, <- OV]
   congr 3
   exact pX fun x hx => iE _ _ (ht x hx).2.2.2
 · show (s.H ++ [cE.gone])[p.1]? = _
   rw [hq (aD.lt hm hp)]
   exact aD.1 m hm p hp
 · show s.H.length + 1 <= (s.H ++ [cE.gone]).length
   simp
 · rintro d es ar ⟨bs, -, h, -⟩
   obtain ⟨a7, h1, h2⟩ := h.ok
   show bJ ar.aw 120 = _
   rw [h1]
   exact (et (et (et h2).2).2).1
 · rintro d es ar ⟨bs, rfl, h, hp⟩ kv kP
   exact alZ rT mV hl (fun t q => ⟨(ht t q).1, (ht t q).2.1, (ht t q).2.2.1⟩) iZ h hp kP
 · rintro d es ar ⟨bs, rfl, ⟨dw, al4, ⟨a7, h1, h2⟩, sK, mJ⟩, hp⟩ eo
   rw [Bm dw al4]
   obtain ⟨dI, H', low', kT, q1, aS, bZ, cR, e8, rfl⟩ := aj6 (ad := ad) (R := aa) (b := s.H.length + 1) (σ := a7) (H := ar.H) (low := ar.low) (Q := fun kT H2 => kT = up a7 122 (.bool false) /\ H2 = ar.H) (pp (.bool false) <| fZ ⟨rfl, rfl, rfl⟩) h1 mJ
   subst e8
   refine ⟨_, q1, bZ, bs, hp.fin fun t EU => eo (aI t, .bool true) ?_, rfl, rfl, ⟨_, aS, ?_⟩, sK, cx _⟩
   · unfold ga cB
     rw [qR]
     exact ey.2 ⟨t, EU, rfl⟩
   · show up a7 122 (.bool false) 1 :: up a7 122 (.bool false) 7 :: List.map (up a7 122 (.bool false)) ts = _
     have ec := (et h2).1
     have zc := (et (et h2).2).1
     have al5 := (et (et (et h2).2).2).2
     rw [iE _ _ (by decide), iE _ _ (by decide), ec, zc, <- al5]
     congr 2
     exact pX fun x hx => iE _ _ (ht x hx).2.1
 · rintro x ar ⟨rfl, es, s2, ⟨bs, h1, h2⟩, rfl⟩
   exact ⟨rfl, bs, h1, h2.aE, h2.ro, h2.ok, h2.own, h2.len⟩
end
end Go.Abs.b1
namespace Go.Abs.b1
open Go Go.Abs
noncomputable section
variable {C : Ctx} {fid : Nat -> Nat} {vars : List Nat} {N : Nat} {ad : Nat -> Option ca}
theorem Bn {c : cm} {σ : cb} {H : Heap} {Q : X -> cb -> Heap -> Prop} {aw : Env} (h : ft ad 0 c σ H Q) (ae : Fits aw σ) (low : Nat) :
  ∃ x dI H' low' a7, dO ad c ⟨[], aw, H, low, none⟩ = some (x, ⟨[], dI, H', low', none⟩) /\ Fits dI a7 /\ Q x a7 H' := by
 obtain ⟨x, dI, H', low', a7, h1, h2, -, -, av⟩ := h aw low ae (cx _) (cx _)
 exact ⟨x, dI, H', low', a7, h1, h2, av⟩
theorem X3 {σ : cb} {a b c d : Nat} {x y z w : V} (h : At σ [a, b, c, d] [x, y, z, w]) : At σ [a, b] [x, y] := by
 simp only [At, eD, n5, zp] at h ⊢
 exact ⟨h.1, h.2.1, trivial⟩
theorem al6 {σ : cb} {a b : Nat} {x y : V} (h : At σ [a, b] [x, y]) : At σ [b] [y] := by
 simp only [At, eD, n5, zp] at h ⊢
 exact ⟨h.2.1, trivial⟩
def OW : cm := .region [⟨some (118, true), .bin .lss (.var 117) (.var 116), none⟩] none
def OX : cm := .cond (.var 118) .skip (.exit 4)
def OY : cm := .region [⟨some (133, false), .bin .add (.var 117) (.const (.int .i64 1)), none⟩, ⟨some (117, true), .mv (.tmp 133), none⟩] none
section
variable {b : Nat} {σ : cb} {H : Heap}
theorem al7 {ab : dJ} {al ew l : Nat} {m : List (Int × Bool)} (j : At σ [1, 7] [.ptr al 0, .ptr ew 0]) (aD : Own H [[(ew, .cells [.map l])], [(l, .map (ga aI V.bool m))], [(al, .cells (jg ab))]]) :
  ft ad b (wB (hA 6)) σ H fun x a7 H' => x = .normal /\ H' = H /\ At a7 [1, 7, 116, 117] [.ptr al 0, .ptr ew 0, aI ab.Model.bn.len, aI 0] := by
 rw [<- CY j]
 refine sI <| pp (.ptr al 0) <| pp (.ptr al 6) <| ph (bP 3 iF ab.Model.bn) (gZ rfl (aD.get 2 rfl) rfl) <| ph (aI ab.Model.bn.len) (uD rfl _) <| pp (aI 0) <| fZ ⟨rfl, rfl, rfl⟩
theorem al8 {i n : Int} (h1 : σ 116 = aI n) (h2 : σ 117 = aI i) : ft ad b (.seq OW OX) σ H fun x a7 H' => x = (if i < n then .normal else .exit 4) /\ H' = H /\ a7 = up σ 118 (.bool (decide (i < n))) := by
 refine oF <| sI <| ph (.bool (decide (i < n))) ?_ <| fZ ?_
 · rw [mn]
   show (dY .lss (σ 117) (σ 116)).map _ = _
   rw [h1, h2]; rfl
 · by_cases h : i < n
   · refine x0 (β := decide (i < n)) rfl (by simpa using h) (xY ⟨by rw [if_pos h], rfl, rfl⟩)
   · refine x1 (β := decide (i < n)) rfl (by simpa using h) (GP ⟨by rw [if_neg h], rfl, rfl⟩)
theorem al9 {i : Int} (h2 : σ 117 = aI i) : ft ad b OY σ H fun x a7 H' => x = .normal /\ H' = H /\ a7 = up σ 117 (aI (aQ (i + 1))) := by
 refine sI <| ph (aI (aQ (i + 1))) ?_ <| pp (aI (aQ (i + 1))) <| fZ ⟨rfl, rfl, rfl⟩
 rw [mn]
 show (dY .add (σ 117) (aI 1)).map _ = _
 rw [h2]; rfl
end
theorem ama (cC : C.P.follows .mixedOrders = true) (bx : eR C fid) (bj : gx C fid (cK ad)) {hd sG qK inc : Code} (dL : C.code vars N hd = some OW) (e7 : C.code vars N sG = some OX) (gE : C.code vars N inc = some OY)
  (hr : xU C vars N qK = some aa) (kK : Be C vars N (I5 qK) = some kQ) (rT : ad 79 = some (.code Ba)) (mV : yQ ad) {j : dJ} (hl : j.Model.bn.l.length <= 12) {al ew l : Nat} {ks : List Int} {s : au} (hnd : ks.Nodup)
  (hs : rW j al ew l [116, 117] [aI j.Model.bn.len, aI 0] ks 0 s) :
  c1 C fid vars N (.block 4 (.loop (.seq hd (.seq sG (.seq (.block 5 qK) inc))))) s fun x ar => x = .normal /\ ∃ bs, pB j.Model.bn.l ks j.Model.bn.l.length bs /\ rW j al ew l [] [] bs 0 ar := by
 refine c1.block (c1.loop (fun k ar => ∃ (i : Nat) (bs : List Int), i + k = j.Model.bn.l.length /\ bs.Nodup /\ pB j.Model.bn.l ks i bs /\ rW j al ew l [116, 117] [aI j.Model.bn.len, aI i] bs 0 ar) j.Model.bn.l.length ⟨0, ks, by omega, hnd, .zero, hs⟩ ?_)
 rintro k s1 ⟨i, cn, asn, amb, BT, EV, EW, ⟨σ, ae, hB⟩, aD, hlen⟩
 have g1 : σ 1 = .ptr al 0 := (et hB).1
 have g7 : σ 7 = .ptr ew 0 := (et (et hB).2).1
 have X4 : σ 116 = aI j.Model.bn.len := (et (et (et hB).2).2).1
 have X5 : σ 117 = aI i := (et (et (et (et hB).2).2).2).1
 rw [Bm EV EW]
 obtain ⟨x, dI, H', low', a7, q1, aS, bZ, rfl, e8⟩ := Bn (ad := ad) (al8 (H := s1.H) X4 X5) ae s1.low
 have X6 : j.Model.bn.len = (j.Model.bn.l.length : Int) := rfl
 have OZ : At a7 [1, 7, 116, 117] [.ptr al 0, .ptr ew 0, aI j.Model.bn.len, aI i] := by
  rw [e8]
  show [up σ 118 (.bool (decide ((i : Int) < j.Model.bn.len))) 1, up σ 118 (.bool (decide ((i : Int) < j.Model.bn.len))) 7, up σ 118 (.bool (decide ((i : Int) < j.Model.bn.len))) 116, up σ 118 (.bool (decide ((i : Int) < j.Model.bn.len))) 117] = _
  rw [iE _ _ (by decide), iE _ _ (by decide), iE _ _ (by decide), iE _ _ (by decide), g1, g7, X4, X5]
 by_cases hi : i < j.Model.bn.l.length
 · have hx : x = .normal := by rw [bZ, if_pos (by rw [X6]; omega)]
   subst hx
   refine c1.yT cC bx bj dL q1 (fun s2 oh => c1.seq (c1.dO cC bx bj e7 oh) (fun eV av => ?_) fun y eV hy av => absurd av.1 hy) (fun h => absurd rfl h)
   obtain ⟨-, rfl⟩ := av
   refine c1.seq (Gq := fun y eV => y = .normal /\ ∃ bs, C4 j.Model.bn.l cn bs /\ rW j al ew l [116, 117] [aI j.Model.bn.len, aI i] bs 0 eV) (c1.block ((al3 (s := ⟨[], dI, s1.H, low', none⟩) cC bx bj hr kK rT mV hl amb (ts := [116, 117]) (vs := [aI j.Model.bn.len, aI i]) (by decide) ⟨rfl, rfl, ⟨a7, aS, OZ⟩, aD, cx _⟩).mono fun y eV hy => ⟨by rw [hy.1]; rfl, hy.2⟩)) (fun eV av => ?_) fun y eV hy av => absurd av.1 hy
   obtain ⟨-, dZ, X7, LF, Ab, ⟨rX, amc, u7⟩, yW, Sc⟩ := av
   have ec : rX 1 = .ptr al 0 := (et u7).1
   have zc : rX 7 = .ptr ew 0 := (et (et u7).2).1
   have amd : rX 116 = aI j.Model.bn.len := (et (et (et u7).2).2).1
   have bi : rX 117 = aI i := (et (et (et (et u7).2).2).2).1
   rw [Bm LF Ab]
   obtain ⟨y, aso, asp, asq, ame, bG, ch, rfl, rfl, iB⟩ := Bn (ad := ad) (al9 (H := eV.H) bi) amc eV.low
   refine (c1.dO cC bx bj gE bG).mono fun y jx hy => ?_
   obtain ⟨rfl, rfl⟩ := hy
   refine .inl ⟨rfl, k - 1, by omega, i + 1, dZ, by omega, X7.dE, .succ BT X7, rfl, rfl, ⟨ame, ch, ?_⟩, yW, cx _⟩
   rw [iB]
   show [up rX 117 (aI (aQ ((i : Int) + 1))) 1, up rX 117 (aI (aQ ((i : Int) + 1))) 7, up rX 117 (aI (aQ ((i : Int) + 1))) 116, up rX 117 (aI (aQ ((i : Int) + 1))) 117] = _
   rw [iE _ _ (by decide), iE _ _ (by decide), iE _ _ (by decide), uB, ec, zc, amd, ep (by omega)]
 · have hx : x = .exit 4 := by rw [bZ, if_neg (by rw [X6]; omega)]
   subst hx
   refine c1.yT cC bx bj dL q1 (fun s2 oh => c1.seq (c1.dO cC bx bj e7 oh) (fun eV av => absurd av.1 (by simp)) fun y eV hy av => ?_) (fun _ => ?_)
   · obtain ⟨rfl, rfl⟩ := av
     have : i = j.Model.bn.l.length := by omega
     subst this
     exact .inr ⟨by simp, rfl, cn, BT, rfl, rfl, ⟨a7, aS, X3 OZ⟩, aD, cx _⟩
   · have : i = j.Model.bn.l.length := by omega
     subst this
     exact .inr ⟨by simp, rfl, cn, BT, rfl, rfl, ⟨a7, aS, X3 OZ⟩, aD, cx _⟩
theorem amf (cC : C.P.follows .mixedOrders = true) (bx : eR C fid) (bj : gx C fid (cK ad)) {p1 p2 p3 lu rM Ey IQ hd sG qK inc : Code} (ah : C.code vars N p1 = some (hA 1)) (e2 : C.code vars N p2 = some (hA 2)) (b5 : C.code vars N p3 = some (hA 3)) (cU : C.code vars N lu = some (hA 4)) (ej : C.code vars N rM = some (hA 5))
  (jH : C.code vars N Ey = some (wB (hA 6))) (v7 : C.code vars N IQ = some (hA 7)) (dL : C.code vars N hd = some OW) (e7 : C.code vars N sG = some OX) (gE : C.code vars N inc = some OY)
  (hr : xU C vars N qK = some aa) (kK : Be C vars N (I5 qK) = some kQ) (rT : ad 79 = some (.code Ba)) (mV : yQ ad) (O0 : IX ad) (j : dJ) :
  c1 C fid vars N (.seq p1 (.seq p2 (.seq p3 (.seq lu (.seq rM (.seq (.seq Ey (.block 4 (.loop (.seq hd (.seq sG (.seq (.block 5 qK) inc)))))) IQ)))))) ⟨[], iP 0 [.agg (jg j)], [], 0, none⟩
   fun x s => x = .ret /\ bJ s.aw 2 = .bool (ya j.Model.Tables.l j.Model.bn.l) := by
 obtain ⟨x, mo, H1, b0, dV, q1, aS, bZ⟩ := Bn (ad := ad) (aj9 (H0 := []) O0 j (alU j)) (Ms 0 [.agg (jg j)]) 0
 unfold ya
 cases bd : (decide (j.Model.bn.l.length <= 12) && j.Model.bn.l.all (oJ j.Model.Tables.l)) with
 | false =>
   rw [bd] at bZ
   obtain ⟨rfl, hB⟩ := bZ
   have af : bJ mo 2 = .bool false := (aS 2).trans (et hB).1
   have aP : (decide (j.Model.bn.l.length <= 12) && (j.Model.bn.l.all (oJ j.Model.Tables.l) && C3 j.Model.bn.l j.Model.Tables.l.length)) = false := by
    rw [<- BB, bd]; rfl
   rw [aP]
   refine c1.yT cC bx bj ah q1 (fun s2 h2 => c1.yT cC bx bj e2 h2 (fun eV av => c1.seq (c1.dO cC bx bj b5 av) (fun jx bc => absurd bc.1 (by simp)) fun y jx hy bc => ?_) fun _ => ⟨rfl, af⟩) fun _ => ⟨rfl, af⟩
   obtain ⟨rfl, rfl⟩ := bc
   exact ⟨rfl, af⟩
 | true =>
   rw [bd] at bZ
   obtain ⟨rfl, al, -, hB, aD⟩ := bZ
   obtain ⟨X8, eo⟩ := aty.1 bd
   have hl : j.Model.bn.l.length <= 12 := by simpa using X8
   rw [X8, eo, dt, dt]
   refine c1.yT cC bx bj ah q1 (fun s2 h2 => c1.yT cC bx bj e2 h2 (fun eV av => c1.seq (c1.dO cC bx bj b5 av) (fun jx bc => ?_) fun y jx hy bc => absurd bc.1 hy) fun h => absurd rfl h) fun h => absurd rfl h
   obtain ⟨-, rfl⟩ := bc
   obtain ⟨x, Aq, H2, dv, kT, bG, ch, rfl, ew, l, -, -, amg, X9⟩ := Bn (ad := ad) (aku (b := 0) j hB aD (alX j hl)) aS b0
   refine c1.yT cC bx bj cU bG (fun s2 h2 => c1.seq (c1.dO cC bx bj ej h2) (fun jx bc => ?_) fun y jx hy bc => absurd bc.1 hy) fun h => absurd rfl h
   obtain ⟨-, rfl⟩ := bc
   obtain ⟨x, wN, rR, Jm, rX, t1, t2, rfl, rfl, u7⟩ := Bn (ad := ad) (al7 (b := 0) amg X9) ch dv
   have hnd : (wM j.Model.bn.l []).Nodup := X1 _ Fk
   refine c1.seq (c1.seq (c1.dO cC bx bj jH t1) (fun jx bc => ?_) fun y jx hy bc => absurd bc.1 hy) (fun O1 h5 => ?_) fun y O1 hy (h5 : y = .normal /\ ∃ bs, pB j.Model.bn.l (wM j.Model.bn.l []) j.Model.bn.l.length bs /\ rW j al ew l [] [] bs 0 O1) => absurd h5.1 hy
   · obtain ⟨-, rfl⟩ := bc
     exact ama cC bx bj dL e7 gE hr kK rT mV hl hnd ⟨rfl, rfl, ⟨rX, t2, u7⟩, X9, cx _⟩
   · obtain ⟨-, bs, amh, ami, Lx, ⟨amj, amk, aml⟩, amm, -⟩ := h5
     rw [Bm ami Lx]
     have zc : At amj [7] [.ptr ew 0] := al6 aml
     obtain ⟨x, amn, asr, ass, ast, kJ, o6, rfl, amo⟩ := Bn (ad := ad) (akG (b := 0) zc amm) amk O1.low
     refine (c1.dO cC bx bj v7 kJ).mono fun y asu hy => ?_
     obtain ⟨rfl, rfl⟩ := hy
     refine ⟨rfl, ?_⟩
     show bJ amn 2 = _
     rw [o6 2, (et amo).1]
     have gT : ∀ h ∈ j.Model.bn.l, 0 <= h.Table /\ h.Table < (j.Model.Tables.l.length : Int) := fun h eK => by
      have := fo.1 eo h eK
      unfold oJ at this
      simp only [cd, decide_eq_true_eq] at this
      exact ⟨this.1.1, this.1.2⟩
     rw [<- agt (N := j.Model.Tables.l.length) hnd (fun t => by rw [X2]; simp) gT amh]
     unfold cB
     rw [n4]
end
end Go.Abs.b1
namespace Go.Abs.b1
open Go Go.Abs
noncomputable section
theorem O2 (x : bQ) (n : Nat) : decide ((x.length : Int) > (n : Int)) = !decide (x.length <= n) := by
 rw [XR]; congr 1; exact decide_eq_decide.2 (by omega)
def EX (t : Table) : Bool := decide (t.Name.length <= 40) && decide (t.aX.l.length <= 12)
def EY (s : List Int) (ts : List Table) : Bool := ts.all EX && (decide (s.length <= 12) && decide (ts.length <= 20))
theorem amp (s : ak Int) (ts : ak Table) (h : bl ts.l) : G9 s ts = some (EY s.l ts.l) := by
 unfold G9
 rw [mA (f := G8 ts) ts.l h (fun t => !EX t) (fun k t ht => by
  simp only [G8, fj (eI ht), cond_true, c5, ht, aW]
  rw [show decide ((t.Name.length : Int) > 40) = !decide (t.Name.length <= 40) from O2 t.Name 40, show decide (t.aX.len > 12) = !decide (t.aX.l.length <= 12) from jz t.aX 12]
  unfold EX
  cases decide (t.Name.length <= 40) <;> cases decide (t.aX.l.length <= 12) <;> rfl) (by simp only [G8, fP, cond_false])]
 unfold EY
 rw [nt, show decide (s.len <= 12) = decide (s.l.length <= 12) from y9 s 12, show decide (ts.len <= 20) = decide (ts.l.length <= 20) from y9 ts 20]
 cases ts.l.any fun t => !EX t <;> rfl
def EZ (o : cG) : Bool := decide (o.Name.length <= 40) && decide (o.aO.l.length <= 6)
def O3 (x : dM) : Bool := decide (x.Delta.l.length <= 20) && (decide (x.fC.l.length <= 10) && decide (x.er.l.length <= 40))
def O4 (x : dM) : Bool := x.fC.l.all fun r => decide (r.cY.l.length <= 20)
def E0 (a : Action) : Bool := (decide (a.dz.l.length <= 6) && O3 a.dM) && O4 a.dM
def Bo (m : Model) : Bool :=
 (decide (m.aO.l.length <= 8) && (decide (m.Tables.l.length <= 6) && (decide (m.dR.l.length <= 20) && (decide (m.c8.l.length <= 60) && (decide (m.Operations.l.length <= 8) && (decide (m.Actions.l.length <= 30) && (decide (m.bn.l.length <= 12) && EY m.aO.l m.Tables.l))))))) &&
 ((m.dR.l.all fun x => decide (x.length <= 40)) && ((m.c8.l.all fun c => decide (c.Row.cY.l.length <= 20)) && (m.Operations.l.all EZ && m.Actions.l.all E0)))
theorem amq (m : Model) : Hg m = some (Bo m) := by
 unfold Hg Bo
 rw [show decide (m.aO.len > 8) = !decide (m.aO.l.length <= 8) from jz m.aO 8, show decide (m.Tables.len > 6) = !decide (m.Tables.l.length <= 6) from jz m.Tables 6,
  show decide (m.dR.len > 20) = !decide (m.dR.l.length <= 20) from jz m.dR 20, show decide (m.c8.len > 60) = !decide (m.c8.l.length <= 60) from jz m.c8 60,
  show decide (m.Operations.len > 8) = !decide (m.Operations.l.length <= 8) from jz m.Operations 8, show decide (m.Actions.len > 30) = !decide (m.Actions.l.length <= 30) from jz m.Actions 30,
  show decide (m.bn.len > 12) = !decide (m.bn.l.length <= 12) from jz m.bn 12]
 cases h1 : decide (m.aO.l.length <= 8) with
 | false => rfl
 | true =>
 cases h2 : decide (m.Tables.l.length <= 6) with
 | false => rfl
 | true =>
 cases av : decide (m.dR.l.length <= 20) with
 | false => rfl
 | true =>
 cases bc : decide (m.c8.l.length <= 60) with
 | false => rfl
 | true =>
 cases h5 : decide (m.Operations.l.length <= 8) with
 | false => rfl
 | true =>
 cases gu : decide (m.Actions.l.length <= 30) with
 | false => rfl
 | true =>
 cases lv : decide (m.bn.l.length <= 12) with
 | false => rfl
 | true =>
 have aS : m.Tables.l.length <= 6 := by simpa using h2
 have bZ : m.dR.l.length <= 20 := by simpa using av
 have cR : m.c8.l.length <= 60 := by simpa using bc
 have e8 : m.Operations.l.length <= 8 := by simpa using h5
 have hC : m.Actions.l.length <= 30 := by simpa using gu
 simp only [fQ, cond_false, dt]
 rw [amp m.aO m.Tables (by unfold bl; omega)]
 cases EY m.aO.l m.Tables.l with
 | false => rfl
 | true =>
 simp only [aW, fQ, cond_false, dt]
 rw [mA (f := Ha m) m.dR.l (by omega) (fun x => !decide (x.length <= 40)) (fun k x hx => by
  simp only [Ha, fj (eI hx), cond_true, c5, hx, aW]
  rw [show decide ((x.length : Int) > 40) = !decide (x.length <= 40) from O2 x 40]
  cases decide (x.length <= 40) <;> rfl) (by simp only [Ha, fP, cond_false])]
 rw [nt]
 cases m.dR.l.any fun x => !decide (x.length <= 40) with
 | true => rfl
 | false =>
 simp only [aW, o0, cond_false, dt]
 rw [mA (f := Hb m) m.c8.l (by omega) (fun c => !decide (c.Row.cY.l.length <= 20)) (fun k c hx => by
  simp only [Hb, fj (eI hx), cond_true, c5, hx, aW]
  rw [show decide (c.Row.cY.len > 20) = !decide (c.Row.cY.l.length <= 20) from jz c.Row.cY 20]
  cases decide (c.Row.cY.l.length <= 20) <;> rfl) (by simp only [Hb, fP, cond_false])]
 rw [nt (l := m.c8.l)]
 cases m.c8.l.any fun c => !decide (c.Row.cY.l.length <= 20) with
 | true => rfl
 | false =>
 simp only [aW, o0, cond_false, dt]
 rw [mA (f := Hd m) m.Operations.l (by omega) (fun o => !EZ o) (fun k o hx => by
  simp only [Hd, fj (eI hx), cond_true, c5, hx, aW]
  rw [show decide ((o.Name.length : Int) > 40) = !decide (o.Name.length <= 40) from O2 o.Name 40, show decide (o.aO.len > 6) = !decide (o.aO.l.length <= 6) from jz o.aO 6]
  unfold EZ
  cases decide (o.Name.length <= 40) <;> cases decide (o.aO.l.length <= 6) <;> rfl) (by simp only [Hd, fP, cond_false])]
 rw [nt (l := m.Operations.l)]
 cases m.Operations.l.any fun o => !EZ o with
 | true => rfl
 | false =>
 simp only [aW, o0, cond_false, dt]
 rw [mA (f := Hf m) m.Actions.l (by omega) (fun a => !E0 a) (fun k a hx => by
  simp only [Hf, fj (eI hx), cond_true, c5, hx, aW]
  rw [show decide (a.dz.len > 6) = !decide (a.dz.l.length <= 6) from jz a.dz 6, show decide (a.dM.Delta.len > 20) = !decide (a.dM.Delta.l.length <= 20) from jz a.dM.Delta 20,
   show decide (a.dM.fC.len > 10) = !decide (a.dM.fC.l.length <= 10) from jz a.dM.fC 10, show decide (a.dM.er.len > 40) = !decide (a.dM.er.l.length <= 40) from jz a.dM.er 40]
  unfold E0 O3
  cases decide (a.dz.l.length <= 6) with
  | false => rfl
  | true =>
    cases decide (a.dM.Delta.l.length <= 20) with
    | false => rfl
    | true =>
      cases eK : decide (a.dM.fC.l.length <= 10) with
      | false => rfl
      | true =>
        cases decide (a.dM.er.l.length <= 40) with
        | false => rfl
        | true =>
          have hl : a.dM.fC.l.length <= 10 := by simpa using eK
          simp only [fQ, cond_false, aW, zq, dt]
          rw [mA (f := He a) a.dM.fC.l (by omega) (fun r => !decide (r.cY.l.length <= 20)) (fun k r hx => by
           simp only [He, fj (eI hx), cond_true, c5, hx, aW]
           rw [show decide (r.cY.len > 20) = !decide (r.cY.l.length <= 20) from jz r.cY 20]
           cases decide (r.cY.l.length <= 20) <;> rfl) (by simp only [He, fP, cond_false])]
          unfold O4
          rw [nt]
          cases a.dM.fC.l.any fun r => !decide (r.cY.l.length <= 20) <;> rfl) (by simp only [Hf, fP, cond_false])]
 rw [nt (l := m.Actions.l)]
 cases m.Actions.l.any fun a => !E0 a <;> rfl
structure O5 (m : Model) : Prop where
 Ya : m.aO.l.length <= 8
 tables : m.Tables.l.length <= 6
 Yb : m.dR.l.length <= 21
 cons : m.c8.l.length <= 60
 ops : m.Operations.l.length <= 8
 s7 : m.Actions.l.length <= 31
 amr : m.bn.l.length <= 13
 ad : ∀ t ∈ m.Tables.l, t.Name.length <= 40 /\ t.aX.l.length <= 12
 ams : ∀ x ∈ m.dR.l, x.length <= 40
 Yc : ∀ c ∈ m.c8.l, c.Row.cY.l.length <= 20
 op : ∀ o ∈ m.Operations.l, o.Name.length <= 40 /\ o.aO.l.length <= 6
 act : ∀ a ∈ m.Actions.l, a.dz.l.length <= 6 /\ OQ a.dM
theorem Yd {m : Model} (h : Bo m = true) : O5 m := by
 unfold Bo EY at h
 simp only [cd, decide_eq_true_eq, fo] at h
 obtain ⟨⟨al, a2, a3, a4, a5, Bp, ew, amt, -, -⟩, ec, gJ, ju, lb⟩ := h
 refine ⟨al, a2, by omega, a4, a5, by omega, by omega, fun t ht => ?_, ec, gJ, fun o ho => ?_, fun a ao => ?_⟩
 · have := amt t ht
   unfold EX at this
   simpa using this
 · have := ju o ho
   unfold EZ at this
   simpa using this
 · have := lb a ao
   unfold E0 O3 O4 at this
   simp only [cd, decide_eq_true_eq, fo] at this
   obtain ⟨⟨dL, e7, gE, jG⟩, iX⟩ := this
   exact ⟨dL, by unfold bl; omega, by unfold bl; omega, by unfold bl; omega, fun r hr => by have := iX r hr; unfold bl; omega⟩
def zd (m : Model) : Bool :=
 ji m.aO.l m.Tables.l && (decide (m.dR.l.length <= 24) && (u1 m.dR.l && (y2 m.aO.l m.Tables.l (hk m.aO.l m.Tables.l true) m.dR.len m.c8.l && (wK m.aO.l.length m.Operations.l &&
  (zb m.aO.l m.Tables.l (hk m.aO.l m.Tables.l true).length m.Operations.l m.Actions.l && ya m.Tables.l m.bn.l)))))
theorem amu {m : Model} (b : O5 m) : Dt m = some (zd m) := by
 have hs : bl m.aO.l := by have := b.Ya; unfold bl; omega
 have ht : bl m.Tables.l := by have := b.tables; unfold bl; omega
 have hc : ∀ t ∈ m.Tables.l, bl t.aX.l := fun t h => by have := b.ad t h; unfold bl; omega
 unfold Dt zd
 rw [OD m.aO m.Tables hs ht hc]
 simp only [aW]
 cases af : ji m.aO.l m.Tables.l with
 | false => rfl
 | true =>
   simp only [cond_true, dt]
   rw [show decide (m.dR.len > 24) = !decide (m.dR.l.length <= 24) from jz m.dR 24]
   cases decide (m.dR.l.length <= 24) with
   | false => rfl
   | true =>
     simp only [fQ, cond_false, dt]
     rw [Xy m.dR (by have := b.Yb; unfold bl; omega)]
     simp only [aW]
     cases u1 m.dR.l with
     | false => rfl
     | true =>
       obtain ⟨x, ex, el⟩ := ak4 m.aO m.Tables true hs ht hc
       rw [af] at el
       simp only [cond_true] at el
       have iu : ∀ t ∈ m.Tables.l, jT m.aO.l.length t.aX.l = true := fun t h => y0 ((yZ af).2.2.2 t h)
       simp only [fQ, cond_false, dt]
       rw [ex]
       simp only [aW]
       have ah := alh (dJ.mk m x) (by have := b.cons; show m.c8.l.length < _; omega) (by show x.l.length <= _; rw [el]; have := XF af true; omega) ht iu (fun c h => by have := b.Yc c h; unfold bl; omega)
       have e2 := alB (dJ.mk m x) (by have := b.ops; show m.Operations.l.length <= _; omega) (fun o h => by have := (b.op o h).2; unfold bl; omega)
       rw [ah, e2]
       simp only [aW]
       rw [show (dJ.mk m x).strict.l = hk m.aO.l m.Tables.l true from el]
       cases y2 m.aO.l m.Tables.l (hk m.aO.l m.Tables.l true) m.dR.len m.c8.l with
       | false => rfl
       | true =>
         simp only [cond_true, dt]
         cases cV : wK m.aO.l.length m.Operations.l with
         | false => rfl
         | true =>
           have O6 := cV
           unfold wK at O6
           simp only [cd, fo] at O6
           have b5 := alH (dJ.mk m x) hs ht hc af O6.1 (fun o h => by have := (b.op o h).2; unfold bl; omega) (fun a h => (b.act a h).2) (fun a h => by have := (b.act a h).1; unfold bl; omega) (by have := b.s7; unfold bl; show m.Actions.l.length < _; omega)
           rw [b5]
           simp only [aW, cond_true, dt]
           rw [show (dJ.mk m x).strict.len = ((hk m.aO.l m.Tables.l true).length : Int) from by rw [dF]; show ((x.l.length : Nat) : Int) = _; rw [el]]
           cases zb m.aO.l m.Tables.l ((hk m.aO.l m.Tables.l true).length : Int) m.Operations.l m.Actions.l <;> rfl
end
end Go.Abs.b1
namespace Go.Abs.b1
open Go Go.Abs Go.Abs.Lex
noncomputable section
theorem nr (c : UInt8) (n : Nat) : ((c.toNat : Int) == (n : Int)) = (c.toNat == n) := by
 rw [BA]; simp; omega
theorem wO {s : bQ} {k : Nat} (h : k < s.length) : decide ((k : Int) < (s.length : Int)) = true := by simp; exact h
theorem wP {s : bQ} {k : Nat} (h : s.length <= k) : decide ((k : Int) < (s.length : Int)) = false := by simp; exact h
theorem Jo {s : bQ} (hl : s.length < 4611686018427387904) (p : UInt8 -> Bool) {f : Int -> Option (cM Int Int)} (ae : ∀ (k : Nat) c, s[k]? = some c -> f k = some (bif p c then .next (aQ (k + 1)) else .out k)) (he : ∀ k : Nat, s.length <= k -> f k = some (.out k)) :
  ∀ (n k : Nat), k + n = s.length -> bU f (k : Int) = some (((k + gN p (s.drop k) : Nat)) : Int) := by
 intro n
 induction n with
 | zero =>
   intro k ai
   rw [kt, he k (by omega), td (by omega)]; rfl
 | succ n ih =>
   intro k ai
   have aH : k < s.length := by omega
   have hx : s[k]? = some s[k] := by simp [aH]
   rw [kt, ae k _ hx, oU aH, x9]
   cases hp : p s[k] with
   | true =>
     simp only [cond_true, if_true]
     rw [ep (by omega), ih (k + 1) (by omega)]
     congr 2; omega
   | false => rfl
theorem Jp {s : bQ} {a c : Nat} (h1 : a <= c) (h2 : c <= s.length) : oH s (a : Int) (c : Int) = some ((s.take c).drop a) := by
 unfold oH
 rw [if_pos (by omega)]; simp
end
end Go.Abs.b1
namespace Go.Abs.b1
open Go Go.Abs Go.Abs.Lex
noncomputable section
theorem Pb (c : UInt8) : yt (c.toNat : Int) = some (lE c) := by
 unfold yt lE
 rw [show decide ((c.toNat : Int) >= 97) = decide (97 <= c.toNat) from decide_eq_decide.2 (by omega), show decide ((c.toNat : Int) <= 122) = decide (c.toNat <= 122) from decide_eq_decide.2 (by omega)]
theorem Pc (c : UInt8) : yu (c.toNat : Int) = some (ik c) := by
 unfold yu ik
 rw [show decide ((c.toNat : Int) >= 48) = decide (48 <= c.toNat) from decide_eq_decide.2 (by omega), show decide ((c.toNat : Int) <= 57) = decide (c.toNat <= 57) from decide_eq_decide.2 (by omega)]
theorem amD (c : UInt8) : D2 (c.toNat : Int) = some (kV c) := by
 unfold D2 kV
 rw [Pb, Pc, show ((c.toNat : Int) == 95) = (c.toNat == 95) from nr c 95]
 cases lE c <;> cases ik c <;> rfl
theorem Yg (c : UInt8) : AM (c.toNat : Int) = some (hN c) := by
 unfold AM hN
 rw [show ((c.toNat : Int) == 9) = (c.toNat == 9) from nr c 9, show ((c.toNat : Int) == 10) = (c.toNat == 10) from nr c 10, show ((c.toNat : Int) == 13) = (c.toNat == 13) from nr c 13, show ((c.toNat : Int) == 32) = (c.toNat == 32) from nr c 32]
 cases c.toNat == 9 <;> cases c.toNat == 10 <;> cases c.toNat == 13 <;> cases c.toNat == 32 <;> rfl
theorem amE (c : UInt8) : AO (c.toNat : Int) = some (c.toNat != 10) := by
 unfold AO bne
 rw [show ((c.toNat : Int) == 10) = (c.toNat == 10) from nr c 10]
theorem Yh (s : bQ) (hl : s.length < 4611686018427387904) {f : Int -> Option Bool} {p : UInt8 -> Bool} (ae : ∀ c : UInt8, f (c.toNat : Int) = some (p c)) : AL s f = some ((gN p s : Nat) : Int) := by
 unfold AL
 have h := Jo (s := s) hl p (f := D0 s f) (fun k c hx => by
  have aH := eI hx
  simp only [D0, wO aH, cond_true, c5, hx, aW, ae]
  cases p c <;> rfl) (fun k ai => by simp only [D0, wP ai, cond_false, aW]) s.length 0 (by omega)
 rw [show bU (D0 s f) 0 = _ from h]
 simp
theorem amF (s : bQ) (hl : s.length < 4611686018427387904) : D1 s = some ((gy false s : Nat) : Int) := by
 have key : ∀ (n k : Nat), k + n = s.length -> ∃ o : bK Int Int, bU (AP s) (k : Int) = some o /\ (match o with | .go p => p | .ret p => p) = ((k + gy false (s.drop k) : Nat) : Int) := by
  intro n
  induction n using Nat.strongRecOn with
  | ind n ih =>
    intro k ai
    rw [kt]
    rcases gg k s.length with aH | hge
    · have hx : s[k]? = some s[k] := by simp [aH]
      have l9 : s.drop k = s[k] :: s.drop (k + 1) := oU aH
      have xK : oH s (k : Int) (s.length : Int) = some (s.drop k) := by rw [Jp (by omega) (aK _), Fi]
      have ae : AP s (k : Int) = bif hN s[k] then some (.next (aQ ((k : Int) + 1))) else (bif s[k].toNat == 35 then some (.next (aQ ((k : Int) + (gN (fun c => c.toNat != 10) (s.drop k) : Nat)))) else some (.out (.ret (k : Int)))) := by
       simp only [AP, wO aH, cond_true, c5, hx, aW, Yg, xK, Yh (s.drop k) (by rw [oW]; omega) amE]
       rw [show ((s[k].toNat : Int) == 35) = (s[k].toNat == 35) from nr s[k] 35]
      rw [ae, l9]
      cases hw : hN s[k] with
      | true =>
        simp only [cond_true]
        rw [ep (by omega)]
        obtain ⟨o, h1, h2⟩ := ih (s.length - (k + 1)) (by omega) (k + 1) (by omega)
        refine ⟨o, h1, ?_⟩
        rw [h2]
        simp only [gy, hw, if_true]
        congr 1; omega
      | false =>
        cases ns : s[k].toNat == 35 with
        | true =>
          have s8 : s[k].toNat = 35 := by simpa using ns
          have bA : (fun c : UInt8 => c.toNat != 10) s[k] = true := by simp [s8]
          have hr := G3 (s[k] :: s.drop (k + 1))
          have h0 : gy false (s[k] :: s.drop (k + 1)) = gy true (s[k] :: s.drop (k + 1)) := by
           simp only [gy, hw, gX, if_false, s8, if_true]
           rfl
          have jE : 1 <= gN (fun c => c.toNat != 10) (s[k] :: s.drop (k + 1)) := by rw [x9, if_pos bA]; omega
          have hle : gN (fun c => c.toNat != 10) (s[k] :: s.drop (k + 1)) <= s.length - k := by
           have := v8 (fun c => c.toNat != 10) (s[k] :: s.drop (k + 1))
           rw [<- l9, oW] at this
           rw [l9] at this; exact this
          rw [h0, hr]
          generalize aa : gN (fun c => c.toNat != 10) (s[k] :: s.drop (k + 1)) = R at jE hle ⊢
          have O8 : (s[k] :: s.drop (k + 1)).drop R = s.drop (k + R) := by rw [<- l9, r6]
          simp only [cond_true, cond_false]
          rw [O8, gf (by omega) (by omega)]
          obtain ⟨o, h1, h2⟩ := ih (s.length - (k + R)) (by omega) (k + R) (by omega)
          refine ⟨o, by rw [show (k : Int) + (R : Int) = ((k + R : Nat) : Int) by omega]; exact h1, ?_⟩
          rw [h2]; congr 1; omega
        | false =>
          have O9 : ¬ s[k].toNat = 35 := by simpa using ns
          refine ⟨.ret (k : Int), rfl, ?_⟩
          simp only [gy, hw, gX, if_false, O9]
          simp
    · refine ⟨.go (k : Int), by simp only [AP, wP hge, cond_false], ?_⟩
      rw [td hge]; simp [gy]
 obtain ⟨o, h1, h2⟩ := key s.length 0 (by omega)
 unfold D1
 rw [show bU (AP s) 0 = _ from h1]
 simp only [eF, List.drop_zero] at h2
 cases o <;> simp_all
theorem amG (s w : bQ) : H6 s w = some (pre s w) := by
 unfold H6 Nk pre
 by_cases h : w.length <= s.length
 · have d : decide ((s.length : Int) >= (w.length : Int)) = true := by simp; exact h
   have hs : oH s 0 (w.length : Int) = some (s.take w.length) := by
    have := Jp (s := s) (a := 0) (c := w.length) (cx _) h
    simpa using this
   rw [d, hs]; rfl
 · have d : decide ((s.length : Int) >= (w.length : Int)) = false := by simp; omega
   have e : (s.take w.length == w) = false := by
    rw [JF (by omega), Bool.eq_false_iff]
    intro eK
    have := congrArg List.length (eq_of_beq eK)
    omega
   rw [d, e]; rfl
theorem Yi (s : bQ) : AK s = some ((sym s : Nat) : Int) := by
 unfold AK
 have hl : (ak.mk two).l = two := rfl
 rw [show bU (DY s) 0 = some (bif two.any (pre s) then .ret () else .go ()) from mA (f := DY s) two (by decide) (pre s) (fun k x hx => by
  have hd : decide ((k : Int) < (ak.mk [[61, 61], [33, 61], [60, 61], [62, 61], [46, 46]]).len) = true := fj (show k < two.length from eI hx)
  have bt : ([[61, 61], [33, 61], [60, 61], [62, 61], [46, 46]] : List bQ)[k]? = some x := hx
  simp only [DY, hd, cond_true, ak.l, c5, bt, aW, amG]
  cases pre s x <;> rfl) (by
  have hd : decide ((two.length : Int) < (ak.mk [[61, 61], [33, 61], [60, 61], [62, 61], [46, 46]]).len) = false := by decide
  simp only [DY, hd, cond_false])]
 unfold sym
 cases h : two.any (pre s) with
 | true => rfl
 | false =>
   simp only [cond_false, aW, gX, if_false]
   cases s with
   | nil => rfl
   | cons c r =>
     have bA : ((c :: r) != ([] : bQ)) = true := rfl
     have hi : aR (c :: r) 0 = some c := rfl
     have hu : UInt8.ofNat ((c.toNat : Int)).toNat = c := by simp
     rw [bA, hi]
     simp only [cond_true, aW, strings_IndexByte, hu]
     rw [show decide (Lib.indexByte [60, 62, 61, 43, 45, 42, 40, 41, 123, 125, 44, 58, 59] c >= 0) = Lex.one.contains c from agk Lex.one c]
     cases Lex.one.contains c <;> rfl
theorem amH (c : UInt8) (r : bQ) : DZ (c :: r) = some (ng (c :: r)) := by
 unfold DZ ng
 have hi : aR (c :: r) 0 = some c := rfl
 rw [hi]
 simp only [aW, Pb, Pc, Yi]
 have hd : decide (((sym (c :: r) : Nat) : Int) > 0) = decide (0 < sym (c :: r)) := decide_eq_decide.2 (by omega)
 rw [hd]
 cases lE c <;> cases ik c <;> rfl
end
end Go.Abs.b1
namespace Go.Abs.b1
open Go Go.Abs Go.Abs.Lex
noncomputable section
variable {ad : Nat -> Option ca}
section
variable {call : c3} {ag : aj -> V} {H : Heap} {low : Nat}
theorem rY (x : aj) : b9 call ag H low (.len 0 x) = match ag x with
  | .str s => some (.int .i64 s.length, H, low)
  | _ => none := by
 show step ag H low (.len 0 x) = _
 cases hx : ag x <;> simp [step, hx]
theorem u9 (x i : aj) : b9 call ag H low (.p6 x i) = match ag x, jW (ag i) with
 | .str s, some i => (s[i]?).map fun c => (.int .u8 c.toNat, H, low)
 | _, _ => none := rfl
theorem Bq (x : aj) (lo hi : Option aj) : b9 call ag H low (.o1 x lo hi) = match ag x with
 | .str s => match eG ag 0 lo, eG ag s.length hi with
   | some a, some b => if a <= b /\ b <= s.length then some (.str ((s.take b).drop a), H, low) else none
   | _, _ => none
 | _ => none := rfl
end
structure mB (ad : Nat -> Option ca) : Prop where
 letter : WK ad
 digit : WL ad
 part : WM ad
 amI : WN ad
 Bc : WO ad
 symbol : WQ ad
 run : WR ad
 skip : WS ad
 nl : WT ad
 amJ : ad 152 = some (.code WX)
 amK : ad 153 = some (.code WY)
 amL : ad 93 = some (.code WV)
 amM : ad 39 = some (.code ED)
 amN : ∃ sp, ad 244 = some (.ext sp) /\ sp [.str G4] = some (.list 1 (kw.map .str))
def aV (ad : Nat -> Option ca) (f : V) (args : List V) (H : Heap) (v : V) : Prop := cK ad f args H = some (v, H, H.length)
def bv (c : UInt8) : V := .int .u8 c.toNat
theorem amO (T : mB ad) (c : UInt8) (H : Heap) : aV ad (.fn 155 [] []) [bv c] H (.bool (lE c)) := T.letter H _ _ (Pb c)
theorem Yj (T : mB ad) (c : UInt8) (H : Heap) : aV ad (.fn 158 [] []) [bv c] H (.bool (ik c)) := T.digit H _ _ (Pc c)
theorem amP (T : mB ad) (c : UInt8) (H : Heap) : aV ad (.fn 157 [] []) [bv c] H (.bool (kV c)) := T.part H _ _ (amD c)
theorem amQ (T : mB ad) (c : UInt8) (H : Heap) : aV ad (.fn 160 [] []) [bv c] H (.bool (hN c)) := T.amI H _ _ (Yg c)
theorem amR (T : mB ad) (c : UInt8) (r : List UInt8) (H : Heap) : aV ad (.fn 161 [] []) [.str (c :: r)] H (.bool (ng (c :: r))) := T.Bc H _ _ (amH c r)
theorem amS (T : mB ad) (s : List UInt8) (H : Heap) : aV ad (.fn 159 [] []) [.str s] H (.int .i64 (sym s)) := T.symbol H _ _ (Yi s)
theorem amT (T : mB ad) {s : List UInt8} {H : Heap} (hl : s.length < 4611686018427387904) : aV ad (.fn 154 [] []) [.str s] H (.int .i64 (gy false s)) := T.skip H _ _ (amF s hl)
theorem Yk (T : mB ad) {s : List UInt8} {p : UInt8 -> Bool} {i : Nat} {H : Heap} (hl : s.length < 4611686018427387904) (ae : ∀ (c : UInt8) H, aV ad (.fn i [] []) [bv c] H (.bool (p c))) :
  aV ad (.fn 156 [] []) [.str s, .fn i [] []] H (.int .i64 (gN p s)) :=
 T.run H [] (Own.nil H) s (fun n => if 0 <= n /\ n < 256 then some (p (UInt8.ofNat n.toNat)) else none) (.fn i [] []) (fun H low => by simp [gl, eg, bO, ct]) (fun H' z q _ aP => by
   split at aP
   · rename_i h
     cases aP
     have := ae (UInt8.ofNat z.toNat) H'
     unfold aV bv at this
     have e : ((UInt8.ofNat z.toNat).toNat : Int) = z := by
      rw [UInt8.toNat_ofNat']; omega
     rw [e] at this
     exact this
   · cases aP) _ (Yh s hl fun c => by
   have h1 : c.toNat < 256 := c.toNat_lt
   rw [if_pos ⟨by omega, by omega⟩]
   simp)
def ze (l : List (List UInt8)) (k : Nat) : List (V × V) := (l.take k).foldl (fun e s => kH 1 (.str s) (.bool true) e) []
def va : List (V × V) := kw.map fun s => (V.str s, V.bool true)
theorem amU : ze kw 35 = va := by kernel_rfl
theorem amV (T : mB ad) (H : Heap) : cK ad (.fn 244 [] []) [.str G4] H = some (.list 1 (kw.map .str), H, H.length) := by
 obtain ⟨sp, h1, h2⟩ := T.amN
 rw [sf, h1]
 simp [h2, ct, bO]
def strKeys (es : List (V × V)) : Prop := ∀ p ∈ es, ∃ t, p.1 = V.str t
theorem amW {es : List (V × V)} (h : strKeys es) (s : List UInt8) (v : V) : strKeys (kH 1 (.str s) v es) := by
 induction es with
 | nil => intro p hp; simp [kH] at hp; exact ⟨s, by rw [hp]⟩
 | cons q es ih =>
   obtain ⟨t, ht⟩ := h q (by simp)
   obtain ⟨a, b⟩ := q
   simp only at ht; subst ht
   simp only [kH, hX]
   split
   · intro p hp
     rcases dS.1 hp with rfl | hp
     · exact ⟨s, rfl⟩
     · exact h p (by simp [hp])
   · intro p hp
     rcases dS.1 hp with rfl | hp
     · exact ⟨t, rfl⟩
     · exact ih (fun p hp => h p (by simp [hp])) p hp
theorem amX {es : List (V × V)} (h : strKeys es) (s : List UInt8) : ∃ o, hv 1 (.str s) es = some o := by
 induction es with
 | nil => exact ⟨none, rfl⟩
 | cons q es ih =>
   obtain ⟨t, ht⟩ := h q (by simp)
   obtain ⟨a, b⟩ := q
   simp only at ht; subst ht
   obtain ⟨o, ho⟩ := ih (fun p hp => h p (by simp [hp]))
   simp only [hv, hX]
   cases (s == t) with
   | true => exact ⟨some b, rfl⟩
   | false => exact ⟨o, ho⟩
theorem amY (l : List (List UInt8)) (k : Nat) : strKeys (ze l k) := by
 unfold ze
 generalize l.take k = m
 have : ∀ (m : List (List UInt8)) e, strKeys e -> strKeys (m.foldl (fun e s => kH 1 (.str s) (.bool true) e) e) := by
  intro m
  induction m with
  | nil => intro e h; exact h
  | cons a m ih => intro e h; exact ih _ (amW h _ _)
 exact this m [] (fun p hp => by cases hp)
theorem amZ {l : List (List UInt8)} {k : Nat} {s : List UInt8} (h : l[k]? = some s) : ze l (k + 1) = kH 1 (.str s) (.bool true) (ze l k) := by
 unfold ze
 rw [wY, h]
 simp
theorem am0 (s : List UInt8) : hv 1 (.str s) va = some (if kw.contains s then some (.bool true) else none) := by
 unfold va
 generalize kw = l
 induction l with
 | nil => rfl
 | cons a l ih =>
   simp only [eD, hv, hX, List.contains_cons]
   cases asx : (s == a) with
   | true => rfl
   | false => simp [ih]
theorem E1 {H : Heap} {p : Nat} {o : cE} (h : H[p]? = some o) (t : Heap) : (H ++ t)[p]? = some o := by
 have hp : p < H.length := by
  rcases gg p H.length with h1 | h1
  · exact h1
  · rw [mF h1] at h; cases h
 rw [hq hp, h]
set_option maxHeartbeats 1000000 in
theorem am1 (T : mB ad) (H : Heap) : cK ad (.fn 152 [] []) [] H = some (.map H.length, H ++ [.map va], H.length) := by
 have key := ad4 (ad := ad) (b := 8) (n := 6) (i := 7) (t := 13) (blk := 1) (ex := 0) (body := Oe)
  (I := fun k st => st.H = H ++ [.map (ze kw k)] /\ st.low = H.length /\ bJ st.aw 1 = .map H.length /\ bJ st.aw 5 = .list 1 (kw.map .str) /\ bJ st.aw 7 = .int .i64 k /\ bJ st.aw 6 = .int .i64 (35 : Nat))
  (Q := fun x st => st.H = H ++ [.map va] /\ st.low = H.length /\ x = .exit 0 /\ bJ st.aw 1 = .map H.length)
  (N := 35) (by decide) (by decide) (by decide)
  (fun k st h => ⟨h.2.2.2.2.1, h.2.2.2.2.2, by rw [h.1, h.2.1]; simp⟩)
  (by
    rintro k st ai ⟨h1, h2, av, bc, h5, gu⟩
    obtain ⟨w, hn⟩ : ∃ w, kw[k]? = some w := ⟨_, oV (by rw [MA]; exact ai)⟩
    have iz : xW 1 (V.list 1 (kw.map .str)) = true := rfl
    have bt : (el (V.list 1 (kw.map .str)))[k]? = some (.str w) := by simp [el, hn]
    have Je : aG (V.str w) = [V.str w] := rfl
    obtain ⟨o, ho⟩ := amX (amY kw k) w
    refine ⟨.normal, _, by simp [Oe, jl, iP, jD, mH, oc, qa, qc, qb, nw, c9, gP, qv, oD, mn, pt, qx, sE, rq, qw, nb, rp, vW, aj.ag, bJ, fM, au.put, dY, o4, o3, fe, gl, eg, bO, ct, hZ, lP, finish, old, fc, flat, lZ, tk, jk, hJ, aG, S.R, S.q, S.k, S.rt, S.iD, S.cj, S.e, S.r, S.o, S.n, S.rg, S.m, S.b2, S.ls, S.di, S.eq, S.ne, S.lt, S.gt, S.df, S.no, S.jr, S.st, S.gI, S.ia, S.kr, S.ex, S.c, S.cs, S.jM, S.kq, S.z, S.fn, S.iU, h1, h2, av, bc, h5, gu, ad3, iz, bt, SW, step, ho, tr, -List.getElem?_map]; rfl, ?_⟩
    simp only [true_or, if_true, fM, h1, h2]
    refine ⟨by simp [h5], by simp, by simp [amZ hn], by simp, by simp [av], by simp [bc], by simp, by simp [gu]⟩)
  (by
    rintro st ⟨h1, h2, av, bc, h5, gu⟩
    exact ⟨by rw [h1, amU], h2, rfl, by simp [fM, av]⟩)
 obtain ⟨x, aU, h1, h2, av, rfl, bc⟩ := key 35 0 { aE := [], aw := [(0, .hU), (1, .map H.length), (5, .list 1 (kw.map .str)), (6, .int .i64 35), (7, .int .i64 0)], H := H ++ [.map []], low := H.length } (by omega)
  ⟨rfl, rfl, rfl, rfl, rfl, rfl⟩
 have hx := amV T (H ++ [.map []])
 simp only [G4] at hx
 have hlen : (el (V.list 1 (kw.map .str))).length = 35 := by simp [el, MA]
 have iz : xW 1 (V.list 1 (kw.map .str)) = true := rfl
 rw [sf, T.amJ]
 simp [WX, jl, iP, jD, mH, oc, qa, qc, qb, nw, c9, gP, qv, oD, mn, pt, qx, sE, rq, qw, nb, rp, vW, aj.ag, bJ, fR, au.put, dY, o4, o3, fe, gl, eg, bO, ct, hZ, lP, finish, old, fc, flat, lZ, tk, jk, hJ, aG, S.R, S.q, S.k, S.rt, S.iD, S.cj, S.e, S.r, S.o, S.n, S.rg, S.m, S.b2, S.ls, S.di, S.eq, S.ne, S.lt, S.gt, S.df, S.no, S.jr, S.st, S.gI, S.ia, S.kr, S.ex, S.c, S.cs, S.jM, S.kq, S.z, S.fn, S.iU, SS, SY 1, iz, hlen, hx, h1, h2, av, bc, fM, fJ]
set_option maxHeartbeats 1000000 in
theorem am2 (T : mB ad) (s : List UInt8) (H : Heap) : cK ad (.fn 93 [] []) [.str s] H = some (.fn 153 [] [.ptr H.length 0, .ptr (H.length + 2) 0], H ++ [.cells [.str s], .map va, .cells [.map (H.length + 1)]], H.length) := by
 have ai := am1 T (H ++ [.cells [.str s]])
 simp only [kg, iv, qQ, eF, mb, oX, oZ] at ai
 rw [sf, T.amL]
 simp [WV, jl, iP, jD, mH, oc, qa, qc, qb, nw, c9, gP, qv, oD, mn, pt, qx, sE, rq, qw, nb, rp, vW, aj.ag, bJ, fR, au.put, dY, o4, o3, fe, gl, eg, bO, ct, hZ, lP, finish, old, fc, flat, lZ, tk, jk, hJ, aG, S.R, S.q, S.k, S.rt, S.iD, S.cj, S.e, S.r, S.o, S.n, S.rg, S.m, S.b2, S.ls, S.di, S.eq, S.ne, S.lt, S.gt, S.df, S.no, S.jr, S.st, S.gI, S.ia, S.kr, S.ex, S.c, S.cs, S.jM, S.kq, S.z, S.fn, S.iU, Md, b4, eP, ai, lB, iO, setCells, fJ]
end
end Go.Abs.b1
