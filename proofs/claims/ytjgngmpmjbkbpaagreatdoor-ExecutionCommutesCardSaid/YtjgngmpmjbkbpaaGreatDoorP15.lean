/- Texts of this claim, joined and written short by a program. -/
import Derived.Test.YtjgngmpmjbkbpaaGreatDoorP14
import Derived.Test.YtjgngmpmjbkbpaaGreatDoorP01
import Derived.Laws.IdiomRangeMap
import Derived.Test.YtjgngmpmjbkbpaaGreatDoorP00
set_option linter.unusedVariables false
set_option linter.unusedSimpArgs false
set_option linter.unusedSectionVars false
namespace Go.Abs
open Go
variable {C : Ctx} {fid : Nat -> Nat} {w w' : World} {G G' : bT} {H H' : Heap}
theorem bb.apart (aa : bb C fid G H w) : bb C fid ⟨fun _ => Option.none, G.I⟩ [] w where
 obj _ _ e := by cases e
 inj _ _ _ _ e := by cases e
 blk _ _ e := by cases e
 cX b hb := ⟨(aa.cX b hb).1, fun _ _ e => by cases e⟩
 jY _ _ e := by cases e
 e6 := aa.e6
theorem kM.beside (aa : bb C fid G H w) {v : V} {l : Nat} {x : Value} (hp : bO v = true) (h : kM C fid ⟨fun _ => Option.none, G.I⟩ [] w v H' l x w') : kM C fid G H w v H H.length x w' := by
 obtain ⟨ax, gG, he, af⟩ := h
 have e := he 0 (cx _)
 have ei : ∀ b, b < w.heap.size -> w'.heap[b]? = w.heap[b]? := fun b hb => e.ei b hb fun _ _ q => by cases q
 have aZ : ∀ b, G.I b -> ax.I b /\ w'.heap[b]? = w.heap[b]? := fun b hb => ⟨e.cX b hb, ei b (aa.cX b hb).1⟩
 have ny : ∀ b, ax.I b -> G.I b \/ w.heap.size <= b := fun b hb => by
  rcases e.ny b hb with q | q | ⟨_, _, q, _⟩
  · exact .inl q
  · exact .inr q
  · cases q
 refine ⟨⟨G.β, ax.I⟩, ⟨fun l h q => ?_, aa.inj, fun l h q => pY (aa.blk l h q) e.size, fun b hb => ⟨(gG.cX b hb).1, fun l h q acV => ?_⟩, fun l h q acW => e.cX _ (aa.jY l h q acW), gG.e6⟩,
  fun m _ => ⟨e.size, e.os, e.output, fun b hb _ => ei b hb, .refl _, fun l h q => .inl ⟨h, q, .inl rfl⟩, e.cX, fun b hb => (ny b hb).imp id .inl⟩, .p _ _ (af.o5 hp)⟩
 · obtain ⟨o, ho, hr⟩ := aa.obj l h q
   exact ⟨o, ho, iT.mono (G := G) (G' := ⟨G.β, ax.I⟩) (k9.refl G.β) aZ (ei _ (aa.blk l h q)) hr⟩
 · rcases ny b hb with q' | q'
   · exact (aa.cX b q').2 l h q acV
   · have := aa.blk l h q; omega
theorem Su (cC : C.P.follows .mixedOrders = true) (bx : eR C fid) {ad : Nat -> Option ca} (hT : dU C fid ad) {n i : Nat} {f : iw} (hi : ad i = some (.code f)) {spec : List V -> Option V}
  (hs : ∀ args v, spec args = some v -> bO v = true /\ ∃ H' l, cu ad n (.fn i [] []) args [] = some (v, H', l)) : nL C fid i spec := by
 intro G H w args v xs aa eJ lX
 obtain ⟨hp, H', l, he⟩ := hs args v lX
 have hc := St cC bx hT hi he aa.apart (c6.od eJ)
 obtain ⟨fn, j4, Ae⟩ := hT.code i f hi
 obtain ⟨c, hb, -, -, Cz, -⟩ := Gh Ae
 rw [Cx j4 hb Cz]
 exact BF hc fun e w' => fun ⟨x, ah, e2⟩ => ⟨x, ah, e2.beside aa hp⟩
def CA (aY : List V) (v : V) : List V -> Option V := fun args => if mc args aY = true then some v else none
theorem acX (cC : C.P.follows .mixedOrders = true) (bx : eR C fid) {ad : Nat -> Option ca} (hT : dU C fid ad) {n i : Nat} {f : iw} (hi : ad i = some (.code f)) {aY : List V} {v : V} {H' : Heap} {l : Nat}
  (hp : bO v = true) (he : cu ad n (.fn i [] []) aY [] = some (v, H', l)) : nL C fid i (CA aY v) :=
 Su cC bx hT hi fun args u hu => by
  unfold CA at hu
  split at hu
  · rename_i bD
    cases hu
    rw [sw _ _ bD]
    exact ⟨hp, H', l, he⟩
  · cases hu
theorem CB {ad : Nat -> Option ca} (hT : dU C fid ad) {k : Nat} {spec : List V -> Option V} (hs : nL C fid k spec) : dU C fid (over ad k spec) where
 code i f h := by
  unfold over at h
  cases e : Nat.beq i k with
  | true => rw [e] at h; cases h
  | false => rw [e] at h; exact hT.code i f h
 ext i sp h := by
  unfold over at h
  cases e : Nat.beq i k with
  | true =>
    rw [e] at h
    have h' : some (ca.ext spec) = some (.ext sp) := h
    cases h'
    rw [fl e]; exact @hs
  | false => rw [e] at h; exact hT.ext i sp h
theorem Gj (cC : C.P.follows .mixedOrders = true) (bx : eR C fid) {ad : Nat -> Option ca} (hT : dU C fid ad) {n i : Nat} {f : iw} (hi : ad i = some (.code f)) : ∀ {l : List (List V × V)}, iS ad n i l -> nL C fid i (iR l) := by
 intro l hl
 refine Su cC bx hT hi (n := n) fun args u hu => ?_
 induction l with
 | nil => cases hu
 | cons p r ih =>
   obtain ⟨aY, v⟩ := p
   simp only [iR] at hu
   cases e : mc args aY with
   | true =>
     rw [e] at hu
     have h' : some v = some u := hu
     cases h'
     rw [sw _ _ e]
     exact ⟨hl.1.1, [], 0, hl.1.2⟩
   | false => rw [e] at hu; exact ih hl.2 hu
end Go.Abs
namespace Go.Abs
open Go
variable {C : Ctx} {fid : Nat -> Nat} {w w' : World} {G G' : bT} {H H' : Heap}
theorem Sv {P : Program} (ty : TypeId) {r jN since e3 bE : Nat} {seen : Array Nat} {es : Array MapEntry} (hr : w.heap[r]? = some (.mapIter (some jN) since seen e3)) (hb : w.heap[jN]? = some (.map es bE))
  (hold : ∀ x ∈ es.toList, x.born < since) (acY : since <= e3) :
  ((leftOf es seen).size = 0 /\ (Instr.next (.pointer (some ⟨r, 0, none⟩)) false ty).run P w = .ok (.tuple #[.bool false]) w) \/
  ∃ e ∈ (leftOf es seen).toList, ∃ aC : World, aC.heap = w.heap.setIfInBounds r (.mapIter (some jN) since (seen.push e.born) bE) /\ aC.os = w.os /\ aC.output = w.output /\
    (Instr.next (.pointer (some ⟨r, 0, none⟩)) false ty).run P w = .ok (.tuple #[.bool true, e.key, e.val]) aC := by
 simp only [Instr.next, getObj, Sem.run_bind, Sem.run, hr, hb, Result.andThen, next_test_false seen es since e3 hold acY, gX, if_false]
 unfold leftOf
 have dn : ∀ x ∈ (Array.filter (fun e => !seen.contains e.born) es).toList, x.born < since := fun x hx => hold x (by simp at hx ⊢; exact hx.1)
 generalize Array.filter (fun e => !seen.contains e.born) es = L at dn ⊢
 have ah : L.filter (fun x => decide (x.born < since)) = L := Array.filter_eq_self.2 (fun x hx => by simpa using dn x (by simpa using hx))
 have e2 : L.filter (fun x => decide (x.born >= since)) = #[] := by
  rw [Y4]
  intro x hx
  have := dn x (by simpa using hx)
  simp
  omega
 simp only [ah, e2, Array.append_empty]
 by_cases h0 : L.size = 0
 · left
   have : L = #[] := Y3 h0
   subst this
   refine ⟨rfl, ?_⟩
   simp [choose, Sem.run, Question.forced]
 · right
   have bA : L.isEmpty = false := by simp [Array.isEmpty, h0]
   simp only [bA, gX, if_false, Array.empty_append, Array.size_map]
   have acZ : ∃ (j : Nat) (aC : World), j < L.size /\ aC.heap = w.heap /\ aC.os = w.os /\ aC.output = w.output /\ (choose (Question.mapNext L.size)).run P w = .ok j aC := by
    by_cases ae : L.size <= 1
    · exact ⟨0, w, by omega, rfl, rfl, rfl, by simp [choose, Sem.run, Question.forced, ae]⟩
    · exact ⟨_, w.drew, Nat.mod_lt _ (by omega), rfl, rfl, rfl, by
       simp only [choose, Sem.run, Question.forced, decide_eq_true_eq, ae, if_false, Question.cut]
       rfl⟩
   obtain ⟨j, aC, hj, al, a2, a3, cf⟩ := acZ
   have aq1 : r < w.heap.size := by
    rcases gg r w.heap.size with h | h
    · exact h
    · simp [E8 h] at hr
   refine ⟨L[j], by simp, { aC with heap := aC.heap.setIfInBounds r (.mapIter (some jN) since (seen.push L[j].born) bE) }, by rw [al], a2, a3, ?_⟩
   have sB : ∀ (o' : Obj), (setObj r o').run P aC = .ok () { aC with heap := aC.heap.setIfInBounds r o' } := fun o' => by
    simp only [setObj, Sem.run]
    rw [al, hr]
   simp only [cf, Array.getElem?_map, Array.getElem?_eq_getElem hj, r5, Sem.run_bind, sB, Result.andThen]
   rfl
theorem Sw {P : Program} {r jN since bE : Nat} {seen : Array Nat} {es : Array MapEntry} {e : MapEntry} (hr : w.heap[r]? = some (.mapIter (some jN) since (seen.push e.born) bE)) (hb : w.heap[jN]? = some (.map es bE))
  (he : e ∈ es.toList) (hn : (es.toList.map (·.born)).Nodup) :
  (Instr.entry (.pointer (some ⟨r, 0, none⟩))).run P w = .ok (.tuple #[e.key, e.val]) w := by
 have ae : es.find? (·.born == e.born) = some e := by rw [<- Array.find?_toList]; exact find_born e es.toList hn he
 simp only [Instr.entry, getObj, Sem.run_bind, Sem.run, hr, hb, Result.andThen, Array.back?_push, bne_self_eq_false, gX, if_false, ae]
 rfl
section
variable {vars : List Nat} {N : Nat} {ops : Array Oper}
theorem Gk {j : Nat} {o : Oper} {a : Act} {K : Act -> World -> Prop} {Q : Exit -> Act -> World -> Prop} {ro : Option Nat} (ho : ops[j]? = some o) (bt : o.guard = none) (hnd : ∀ c, o.op ≠ .defer c) {x : Value} {aC : World}
  (cf : (execOp a.eval o).run C.P w = .ok (.value x) aC) (ow : K (a.put o.dst x) aC) : wpOpIn (ek ro) 0 C.P ops Q j K a w := by
 unfold wpOpIn
 rw [ho]
 have hw : Region.wanted o (yielded ops a.tmps) = true := by unfold Region.wanted; rw [bt]
 simp only [hw, if_true]
 refine ⟨fun _ _ => trivial, ?_⟩
 rw [Oper.semAt_eq _ _ _ hnd, cf]
 exact ow
theorem dx.put {st : au} {a : Act} (h : dx C fid vars N G st a w) {t : Nat} (gT : t < N) {v : V} {x : Value} (af : bg fid G w v x) :
  dx C fid vars N G (st.put (some (t, vars.contains t)) v) (a.put (some t) x) w := by
 have hp := jL st (some (t, vars.contains t)) v
 refine ⟨by rw [hp.1]; exact h.rel, fun s => ?_, by rw [vH]; exact h.size, by rw [hp.1, hp.2.1]; exact h.low⟩
 rw [K8 _ _ _ _ (by rw [h.size]; exact gT), Ce]
 by_cases e : s = t
 · rw [if_pos e, if_pos e]; exact af
 · rw [if_neg e, if_neg e]; exact h.env s
end
end Go.Abs
namespace Go.Abs
open Go
variable {C : Ctx} {fid : Nat -> Nat} {w w' : World} {G G' : bT} {H H' : Heap}
structure e9 where
 t0 : List b3
 src : aj
 it : Nat
 aF : Nat × Bool
 t1 : List b3
 more : aj
 ep : Nat
 pair : Nat × Bool
 t2 : List b3
 body : cm
def e9.step (R : e9) (call : c3) (e : V) (st : au) : Option au :=
 match c9 call R.t1 (({ st with aE := [] } : au).put (some R.aF) e) [] with
 | some (aU, _) => some { aU with aE := [] }
 | none => none
def e9.round (R : e9) (call : c3) (n : Nat) (k v : V) (st : au) : Option au :=
 match R.step call (.ba [.bool true, k, v]) { st with low := st.H.length } with
 | some bW => match R.more.ag bW.aE bW.aw with
   | .bool true =>
     if dN (bJ bW.aw R.it) (bJ st.aw R.it) = true then
      match c9 call R.t2 (({ bW with aE := [] } : au).put (some R.pair) (.ba [k, v])) [] with
      | some (gi, _) => match exec call n R.body { gi with aE := [] } with
        | some (.normal, kO) => some kO
        | some (.exit id, kO) => if id = R.ep then some kO else none
        | _ => none
      | none => none
     else none
   | _ => none
 | none => none
def e9.fin (R : e9) (call : c3) (st : au) : Option au :=
 match R.step call (.ba [.bool false]) { st with low := st.H.length } with
 | some bW => match R.more.ag bW.aE bW.aw with
   | .bool false => some bW
   | _ => none
 | none => none
def hD (it : Nat) (st : au) : au := { st with aE := [], aw := fR st.aw it (.ptr st.H.length 0), H := st.H ++ [.gone] }
section
variable {vars : List Nat} {N : Nat} {call : c3} {n : Nat}
theorem Af {id : Nat} {ops : Array Oper} {gK : Oper} {os : List Oper} {d0 : Nat} {bz : List b3} {bW aU : au} {wr : List Bool} {a : Act} {x : Value} {aC : World} {ax : bT} {Q : Exit -> Act -> World -> Prop} {ro : Option Nat}
  (bx : eR C fid) (bj : gx C fid call) (sz : ops.toList = gK :: os) (hd : gK.dst = some d0) (bt : gK.guard = none) (hnd : ∀ c, gK.op ≠ .defer c) (hm : dH (C.oper vars N ops) os = some bz)
  (cf : (execOp a.eval gK).run C.P w = .ok (.value x) aC) (gG : dx C fid vars N ax bW (a.put (some d0) x) aC) (he : c9 call bz bW [] = some (aU, wr))
  (dy : ∀ G' bf w', dx C fid vars N G' aU bf w' -> (∀ m, m <= aU.low -> Ext ax aC G' w' m bW.H.length) -> bf.defers = a.defers -> Q .normal bf w') :
  (Code.region id ops false).wpIn (ek ro) 0 C.P Q a w := by
 obtain ⟨S, a8, h0, hn, -, hs⟩ := vI _ _ _ _ _ he
 have hlen : bz.length = os.length := tN _ hm
 have dP : ops.size = os.length + 1 := by rw [<- gW, sz]; rfl
 have key : ∀ k j, j + k = os.length -> ∀ bq al bB, dx C fid vars N bq (S j) al bB -> (∀ m, m <= (S j).low -> Ext ax aC bq bB m bW.H.length) -> al.defers = a.defers -> bW.H.length <= (S j).H.length ->
   wpOpsIn (ek ro) 0 C.P ops Q (List.range' (j + 1) k) al bB := by
  intro k
  induction k with
  | zero =>
    intro j hj bq al bB bG ch eL _
    have e : j = bz.length := by omega
    subst e
    rw [hn] at bG ch
    exact dy bq al bB bG ch eL
  | succ k ih =>
    intro j hj bq al bB bG ch eL gq
    have oj : j < os.length := by omega
    have j0 : os[j]? = some os[j] := by simp [oj]
    have ho : ops[j + 1]? = some os[j] := by rw [<- iK, sz]; simp [oj]
    have Cq : j < bz.length := by omega
    have fF : bz[j]? = some bz[j] := by simp [Cq]
    have bd : sv C vars N ops os[j] bz[j] := zU (tO _ hm j0 fF)
    have cp := hs j _ fF
    rw [th, wpOpsIn_cons]
    have eT := cp.bN bj.bN
    refine xx (T := fun _ => True) bx bj ho bd cp bG.rel (fun _ => .inl rfl) bG.low (fun t _ => bG.env t) (fun x _ => by cases x <;> trivial) (fun _ _ _ _ _ => trivial) bG.size ?_
    intro x fr iW p1 p2 p3
    have xA : bb C fid iW (S (j + 1)).H fr := by
     cases ae : a8 j with
     | true => rw [ae] at p1; exact p1
     | false => rw [ae] at p1; rw [cp.still bj.bN ae]; exact p1
    have mT := p2 0 (cx _)
    refine ih (j + 1) (by omega) iW _ fr ⟨xA, fun t => ?_, by rw [vH]; exact bG.size, eT.bound bG.low⟩ (fun m hm => (ch m (c4 hm eT.1.low)).trans ((p2 m hm).le (aK _) gq)) (by rw [put_defers]; exact eL)
     (c4 gq eT.1.len)
    refine xz (fun d hd => by rw [bG.size]; exact bd.lt d hd) (fun h => p3 t h) (fun h => ?_)
    rw [cp.look bd h]
    exact (bG.env t).ext bG.rel mT
 refine wpIn_region ?_
 rw [dP, Fa, th, wpOpsIn_cons]
 have ac0 : ops[0]? = some gK := by rw [<- iK, sz]; rfl
 refine Gk ac0 bt hnd cf ?_
 rw [hd]
 rw [<- h0] at gG
 exact key os.length 0 (by omega) ax _ aC gG (fun m _ => .refl _ _ _ _) (put_defers _ _ _) (by rw [h0]; exact aK _)
theorem LM {k0 r : Nat} {ops : Array Oper} {os : List Oper} {bz : List b3} {bW aU : au} {wr : List Bool} {a : Act} {aC : World} {ax : bT} {Q : Exit -> Act -> World -> Prop} {ro : Option Nat}
  (bx : eR C fid) (bj : gx C fid call) (xK : ∀ j, j < os.length -> ops[k0 + j]? = os[j]?) (hm : dH (C.oper vars N ops) os = some bz)
  (gG : dx C fid vars N ax bW a aC) (he : c9 call bz bW [] = some (aU, wr))
  (dy : ∀ G' bf w', dx C fid vars N G' aU bf w' -> (∀ m, m <= aU.low -> Ext ax aC G' w' m bW.H.length) -> bf.defers = a.defers -> wpOpsIn (ek ro) 0 C.P ops Q (List.range' (k0 + os.length) r) bf w') :
  wpOpsIn (ek ro) 0 C.P ops Q (List.range' k0 (os.length + r)) a aC := by
 obtain ⟨S, a8, h0, hn, -, hs⟩ := vI _ _ _ _ _ he
 have hlen : bz.length = os.length := tN _ hm
 have key : ∀ k j, j + k = os.length -> ∀ bq al bB, dx C fid vars N bq (S j) al bB -> (∀ m, m <= (S j).low -> Ext ax aC bq bB m bW.H.length) -> al.defers = a.defers -> bW.H.length <= (S j).H.length ->
   wpOpsIn (ek ro) 0 C.P ops Q (List.range' (k0 + j) (k + r)) al bB := by
  intro k
  induction k with
  | zero =>
    intro j hj bq al bB bG ch eL _
    have e : j = bz.length := by omega
    subst e
    rw [hn] at bG ch
    rw [hlen, eF]
    exact dy bq al bB bG ch eL
  | succ k ih =>
    intro j hj bq al bB bG ch eL gq
    have oj : j < os.length := by omega
    have j0 : os[j]? = some os[j] := by simp [oj]
    have ho : ops[k0 + j]? = some os[j] := (xK j oj).trans j0
    have Cq : j < bz.length := by omega
    have fF : bz[j]? = some bz[j] := by simp [Cq]
    have bd : sv C vars N ops os[j] bz[j] := zU (tO _ hm j0 fF)
    have cp := hs j _ fF
    rw [show k + 1 + r = (k + r) + 1 by omega, th, wpOpsIn_cons]
    have eT := cp.bN bj.bN
    refine xx (T := fun _ => True) bx bj ho bd cp bG.rel (fun _ => .inl rfl) bG.low (fun t _ => bG.env t) (fun x _ => by cases x <;> trivial) (fun _ _ _ _ _ => trivial) bG.size ?_
    intro x fr iW p1 p2 p3
    have xA : bb C fid iW (S (j + 1)).H fr := by
     cases ae : a8 j with
     | true => rw [ae] at p1; exact p1
     | false => rw [ae] at p1; rw [cp.still bj.bN ae]; exact p1
    have mT := p2 0 (cx _)
    refine ih (j + 1) (by omega) iW _ fr ⟨xA, fun t => ?_, by rw [vH]; exact bG.size, eT.bound bG.low⟩ (fun m hm => (ch m (c4 hm eT.1.low)).trans ((p2 m hm).le (aK _) gq)) (by rw [put_defers]; exact eL)
     (c4 gq eT.1.len)
    refine xz (fun d hd => by rw [bG.size]; exact bd.lt d hd) (fun h => p3 t h) (fun h => ?_)
    rw [cp.look bd h]
    exact (bG.env t).ext bG.rel mT
 rw [<- h0] at gG
 exact key os.length 0 (by omega) ax _ aC gG (fun m _ => .refl _ _ _ _) rfl (by rw [h0]; exact aK _)
theorem vQ {m k : Nat} (h : Ext G w G' w' m k) (aa : bb C fid G H w) {l : Nat} {h0 : Home} (hb : G.β l = some h0) (hl : l < m) : w'.heap[h0.b]? = w.heap[h0.b]? :=
 h.ei h0.b (aa.blk l h0 hb) fun fp h' ah e2 => .inr (by have := aa.inj fp l h' h0 ah hb e2; omega)
theorem vR {m k : Nat} (h : Ext G w G' w' m k) {l : Nat} {h0 : Home} (hb : G.β l = some h0) (ht : h0.tag = 0) : ∃ h', G'.β l = some h' /\ h'.b = h0.b := by
 obtain ⟨h', e, -, z, ac1, -⟩ := h.homes l h0 hb
 exact ⟨h', e, (ac1 ((z ht).trans ht.symm)).1⟩
theorem Gl (aa : bb C fid G H w) {l : Nat} {h : Home} (hb : G.β l = some h) (hl : H[l]? = some .gone) : h.tag = 0 /\ h.dW = false := by
 obtain ⟨o, ho, hr⟩ := aa.obj l h hb
 rw [hl] at ho; cases ho; exact hr
theorem xL (aa : bb C fid G H w) {l : Nat} {h : Home} (hb : G.β l = some h) {bk : List (V × V)} (hl : H[l]? = some (.map bk)) : h.tag = 0 /\ h.dW = false /\ ∃ es bE, w.heap[h.b]? = some (.map es bE) /\
  a6 fid G w (bk.map (·.1)) (es.toList.map (·.key)) /\ a6 fid G w (bk.map (·.2)) (es.toList.map (·.val)) /\ nx es bE := by
 obtain ⟨o, ho, hr⟩ := aa.obj l h hb
 rw [hl] at ho; cases ho; exact hr
theorem Gm {H : Heap} {l : Nat} {o : cE} (h : H[l]? = some o) : H.set l o = H := by
 apply zn
 intro i
 by_cases e : l = i
 · subst e
   have hl : l < H.length := by
    rcases gg l H.length with q | q
    · exact q
    · rw [mF q] at h; cases h
   rw [tc hl, h]
 · rw [k4 e]
def ly (es : Array MapEntry) (d : List Nat) : Array Nat := (d.map fun i => ((es[i]?).map (·.born)).getD 0).toArray
theorem LN (es : Array MapEntry) (d : List Nat) {i : Nat} {e : MapEntry} (h : es[i]? = some e) : ly es (d ++ [i]) = (ly es d).push e.born := by
 unfold ly
 rw [oY, eD, n5, h]
 simp
structure sC (C : Ctx) (fid : Nat -> Nat) (vars : List Nat) (N base li l r jN bE : Nat) (es : Array MapEntry) (bk : List (V × V)) (st : au) (G : bT) (w : World) (d : List Nat) (s : au) (ax : bT) (al : Act) (aC : World) : Prop where
 rel : dx C fid vars N ax s al aC
 bN : fU st { s with low := min st.low li }
 len : li < s.H.length
 ext : ∀ m, m <= min st.low li -> Ext G w ax aC m st.H.length
 marks : j7 C ax aC base al.defers
 hi : ∃ h, ax.β li = some h /\ h.b = r
 hm : ∃ h, ax.β l = some h /\ h.b = jN
 gone : s.H[li]? = some .gone
 mp : s.H[l]? = some (.map bk)
 iter : aC.heap[r]? = some (.mapIter (some jN) bE (ly es d) bE)
 map : aC.heap[jN]? = some (.map es bE)
theorem sC.on {base li l r jN bE : Nat} {es : Array MapEntry} {bk : List (V × V)} {st : au} {d : List Nat} {s ar : au} {ax bq : bT} {al a2 : Act} {aC bB : World}
  (h : sC C fid vars N base li l r jN bE es bk st G w d s ax al aC) (iZ : l < li) (aq2 : li <= st.H.length) (aa : dx C fid vars N bq ar a2 bB) (dw : ∀ m, m <= ar.low -> Ext ax aC bq bB m s.H.length) (ix : li < ar.low) (dX : Fr s.H s.H.length ar.H ar.low) (eB : ar.ro = s.ro)
  (hd : j7 C bq bB base a2.defers) : sC C fid vars N base li l r jN bE es bk st G w d ar bq a2 bB := by
 obtain ⟨h1, ah, q1⟩ := h.hi
 obtain ⟨h2, e2, aS⟩ := h.hm
 have g1 := Gl h.rel.rel ah h.gone
 have g2 := xL h.rel.rel e2 h.mp
 have lz := dw _ (aK _)
 have lg := h.bN.1.len
 refine ⟨aa, ⟨⟨c4 h.bN.1.len dX.len, jA _ _, fun x hx => ?_⟩, eB.trans h.bN.2⟩, pY h.len dX.len, fun m hm => ?_, hd, ?_, ?_, ?_, ?_, ?_, ?_⟩
 · have ed : x < min st.low li := hx
   exact (dX.same x (by omega)).trans (h.bN.1.same x hx)
 · exact (h.ext m hm).trans ((dw m (by omega)).le (aK _) lg)
 · obtain ⟨h', e', q'⟩ := vR lz ah g1.1; exact ⟨h', e', q'.trans q1⟩
 · obtain ⟨h', e', q'⟩ := vR lz e2 g2.1; exact ⟨h', e', q'.trans aS⟩
 · rw [dX.same li ix]; exact h.gone
 · rw [dX.same l (by omega)]; exact h.mp
 · have := vQ lz h.rel.rel ah ix
   rw [q1] at this; rw [this]; exact h.iter
 · have := vQ lz h.rel.rel e2 (by omega)
   rw [aS] at this; rw [this]; exact h.map
theorem dx.reset {st : au} {a : Act} (h : dx C fid vars N G st a w) : dx C fid vars N G { st with aE := [], low := st.H.length } a w :=
 ⟨h.rel, h.clear.env, h.size, aK _⟩
theorem ac2 {es : Array MapEntry} {d : List Nat} (hn : (es.toList.map (·.born)).Nodup) (aH : ∀ i ∈ d, i < es.size) (h : (leftOf es (ly es d)).size = 0) : ∀ i, i < es.size -> i ∈ d := by
 intro i hi
 have h0 : leftOf es (ly es d) = #[] := Y3 h
 unfold leftOf at h0
 rw [Y4] at h0
 have h1 := h0 es[i] (by simp)
 simp only [pZ, atG] at h1
 rw [Y9] at h1
 unfold ly at h1
 simp only [List.mem_toArray, ey] at h1
 obtain ⟨j, hj, hb⟩ := h1
 have oj := aH j hj
 simp only [Array.getElem?_eq_getElem oj, r5, vg] at hb
 have : j = i := by
  have Sx : j < (es.toList.map (·.born)).length := by simpa using oj
  have Sy : i < (es.toList.map (·.born)).length := by simpa using hi
  have hp := Py.1 hn
  rcases Nat.lt_trichotomy j i with q | q | q
  · exact absurd (by simpa using hb) (hp j i Sx Sy q)
  · exact q
  · exact absurd (by simpa using hb.symm) (hp i j Sy Sx q)
 rw [<- this]; exact hj
theorem ac3 {es : Array MapEntry} {d : List Nat} {e : MapEntry} (he : e ∈ (leftOf es (ly es d)).toList) : ∃ i, es[i]? = some e /\ i ∉ d /\ (leftOf es (ly es (d ++ [i]))).size < (leftOf es (ly es d)).size := by
 have asP : e ∈ es.toList /\ (ly es d).contains e.born = false := by
  unfold leftOf at he
  simpa using he
 obtain ⟨i, hi⟩ := nu.1 asP.1
 rw [iK] at hi
 refine ⟨i, hi, fun hid => ?_, ?_⟩
 · have : (ly es d).contains e.born = true := by
    rw [Y9]
    unfold ly
    simp only [List.mem_toArray, ey]
    exact ⟨i, hid, by rw [hi]; rfl⟩
   rw [this] at asP; cases asP.2
 · rw [LN es d hi]
   unfold leftOf
   have key : ∀ p : MapEntry -> Bool, (es.filter p).size = (es.toList.filter p).length := fun p => by rw [<- gW, Array.toList_filter]
   rw [key, key]
   refine filter_lt _ _ (fun x hx => ?_) e ?_ ?_ _ asP.1
   · simp only [Array.contains_push, pZ, JH] at hx ⊢
     simp at hx ⊢
     exact hx.1
   · rw [asP.2]; rfl
   · simp
theorem ac4 (cC : C.P.follows .mixedOrders = true) (bx : eR C fid) (bj : gx C fid call) {k0 i1 i2 : Nat} {gK on ja : Oper} {jO jP jb : Array Oper} {mX mY : List Oper}
  {mt it aF more pair out ep : Nat} {tm qq qs : TypeId} {body : Code} {R : e9}
  (h0 : jO[k0]? = some gK) (ug : C.bV vars (.tmp mt) = some R.src) (ri : gK.op = .range tm (.tmp mt)) (uh : gK.dst = some it) (ui : gK.guard = none) (hit : it < N) (uj : C.P.underlying tm = some (.map qq qs))
  (h1 : jP.toList = on :: mX) (pn : on.op = .next (.tmp it) false) (hnd : on.dst = some aF) (rj : on.guard = none) (mQ : aF < N)
  (h2 : jb.toList = ja :: mY) (rk : ja.op = .entry (.tmp it)) (uk : ja.dst = some pair) (um : ja.guard = none) (uo : pair < N)
  (po : vars.contains it = true) (rl : R.aF = (aF, vars.contains aF)) (uq : R.pair = (pair, vars.contains pair))
  (pd : dH (C.oper vars N jP) mX = some R.t1) (nA : dH (C.oper vars N jb) mY = some R.t2) (pq : C.bV vars (.tmp more) = some R.more) (vS : C.code vars N body = some R.body) (LO : R.ep = ep) (CC : R.it = it)
  {st : au} {l : Nat} {bk : List (V × V)} (qt : R.src.ag st.aE st.aw = .map l) (mZ : st.H[l]? = some (.map bk)) (Inv : List Nat -> au -> Prop) (Out : au -> Prop)
  (ur : Inv [] (hD it st)) (rm : ∀ d s, Inv d s -> bJ s.aw it = .ptr st.H.length 0)
  (oB : ∀ d s, Inv d s -> ∀ i kv, i ∉ d -> bk[i]? = some kv -> ∃ ar, R.round call n kv.1 kv.2 s = some ar /\ st.H.length < ar.low /\ Inv (d ++ [i]) ar)
  (h9 : ∀ d s, Inv d s -> d.Nodup -> (∀ i, i ∈ d ↔ i < bk.length) -> ∃ ar, R.fin call s = some ar /\ st.H.length < ar.low /\ Out ar)
  {a : Act} {ro : Option Nat} {base : Nat} {Q LP : Exit -> Act -> World -> Prop} (aa : dx C fid vars N G st a w) (eB : ua G st.ro ro) (ev : j7 C G w base a.defers) (hb : base <= w.heap.size)
  (dy : ∀ ar G' bf w', Out ar -> fU st { ar with low := min st.low st.H.length } -> Fin C fid vars N base st G w { ar with low := min st.low st.H.length } G' bf w' -> Q .normal bf w') :
  wpOpIn (ek ro) 0 C.P jO LP k0 (fun bf w' => (Code.block out (.loop (.seq (.region i1 jP false) (.seq (.cond (.tmp more) .skip (.exit out)) (.block ep (.seq (.region i2 jb false) body)))))).wpIn (ek ro) 0 C.P Q bf w') a w := by
 have lh := rf bx aa (.tmp mt) R.src ug
 rw [qt] at lh
 obtain ⟨eU, uu, LQ, LR⟩ := lh.mapInv
 obtain ⟨-, -, es, bE, fL, ee, cO, cp⟩ := xL aa.rel uu mZ
 have iZ : l < st.H.length := aa.rel.lt uu
 have Cb : (execOp a.eval gK).run C.P w = .ok (.value (.pointer (some ⟨w.heap.size, 0, none⟩))) (w.alloc (.mapIter (some eU.b) bE #[] bE)) := by
  unfold execOp
  rw [ri]
  have e : a.eval (.tmp mt) = .map (some eU.b) := LR
  simp only [e, Sem.run_bind, run_range_map w tm qq qs eU.b es bE uj fL, Result.andThen_ok, Sem.run_pure]
 have LS : bk.length = es.size := by
  have := ee.length
  simpa using this.symm
 have LU := aa.rel.push .gone (.mapIter (some eU.b) bE #[] bE) 0 0 ⟨rfl, rfl⟩
 have qp : ∀ m k, k <= st.H.length -> Ext G w ⟨cg G.β st.H.length ⟨w.heap.size, 0, 0, false⟩, G.I⟩ (w.alloc (.mapIter (some eU.b) bE #[] bE)) m k := fun m k ai => (Ext.push aa.rel (.mapIter (some eU.b) bE #[] bE) 0 0 m).le (aK _) ai
 have LV : dx C fid vars N ⟨cg G.β st.H.length ⟨w.heap.size, 0, 0, false⟩, G.I⟩ { st with H := st.H ++ [.gone] } a (w.alloc (.mapIter (some eU.b) bE #[] bE)) :=
  ⟨LU, fun t => (aa.env t).ext aa.rel (qp 0 0 (cx _)), aa.size, by have := aa.low; simp only [kg, iv, qQ]; omega⟩
 have ov : dx C fid vars N ⟨cg G.β st.H.length ⟨w.heap.size, 0, 0, false⟩, G.I⟩ (hD it st) (a.put (some it) (.pointer (some ⟨w.heap.size, 0, none⟩))) (w.alloc (.mapIter (some eU.b) bE #[] bE)) := by
  have := LV.put hit (v := .ptr st.H.length 0) (x := .pointer (some ⟨w.heap.size, 0, none⟩)) (.ptr st.H.length 0 ⟨w.heap.size, 0, 0, false⟩ (de _ _ _) rfl)
  rw [po] at this
  exact this.clear
 suffices LW : ∀ G' bf w', dx C fid vars N G' (hD it st) bf w' -> (∀ m, m <= (hD it st).H.length -> Ext ⟨cg G.β st.H.length ⟨w.heap.size, 0, 0, false⟩, G.I⟩ (w.alloc (.mapIter (some eU.b) bE #[] bE)) G' w' m (hD it st).H.length) ->
   bf.defers = a.defers -> (Code.block out (.loop (.seq (.region i1 jP false) (.seq (.cond (.tmp more) .skip (.exit out)) (.block ep (.seq (.region i2 jb false) body)))))).wpIn (ek ro) 0 C.P Q bf w' by
  refine Gk h0 ui (by rw [ri]; simp) Cb ?_
  rw [uh]
  exact LW _ _ _ ov (fun m _ => .refl _ _ _ _) (by rw [put_defers])
 intro G' bf w' bG ch eL
 refine wpIn_block (Ga (fun k al aC => ∃ d s ax, Inv d s /\ d.Nodup /\ (∀ i ∈ d, i < bk.length) /\ (leftOf es (ly es d)).size < k /\ sC C fid vars N base st.H.length l w.heap.size eU.b bE es bk st G w d s ax al aC) ?_
  (j := (leftOf es (ly es [])).size + 1) ?_)
 · rintro k al aC ⟨d, s, ax, aZ, Sz, kK, ai, bM⟩
   obtain ⟨bs, rfl⟩ : ∃ bs, k = bs + 1 := ⟨k - 1, by omega⟩
   refine ⟨bs, rfl, ?_⟩
   obtain ⟨av, b5, bZ⟩ := bM.hi
   obtain ⟨bc, cU, cR⟩ := bM.hm
   have CD : al.eval (.tmp it) = .pointer (some ⟨w.heap.size, 0, none⟩) := by
    have := bM.rel.env it
    rw [show dD vars s it = bJ s.aw it by unfold dD; rw [if_pos po], rm d s aZ] at this
    obtain ⟨h5, ej, -, eM⟩ := this.nB
    rw [b5] at ej; cases ej
    rw [bZ] at eM; exact eM
   have uv : ∀ c, on.op ≠ .defer c := by rw [pn]; simp
   have zT : ∀ c, ja.op ≠ .defer c := by rw [rk]; simp
   rcases Sv (P := C.P) on.type bM.iter bM.map cp.1 (aK _) with ⟨dP, cf⟩ | ⟨e, he, bB, uw, LX, LY, cf⟩
   ·
    have eo := ac2 cp.2 (fun i hi => by rw [<- LS]; exact kK i hi) dP
    obtain ⟨ar, ae, ix, LZ⟩ := h9 d s aZ Sz fun i => ⟨kK i, fun hi => eo i (by rw [<- LS]; exact hi)⟩
    unfold e9.fin e9.step at ae
    split at ae
    · rename_i s1 gn
      split at gn
      · rename_i jc wr hex
        cases gn
        split at ae
        · rename_i ux
          cases ae
          have xM : (execOp al.eval on).run C.P aC = .ok (.value (.tuple #[.bool false])) aC := by
           unfold execOp
           rw [pn]
           simp only [CD, Sem.run_bind, cf, Result.andThen_ok, Sem.run_pure]
          have ub : dx C fid vars N ax (({ s with aE := [], low := s.H.length } : au).put (some R.aF) (.ba [.bool false])) (al.put (some aF) (.tuple #[.bool false])) aC := by
           rw [rl]
           exact bM.rel.reset.put mQ (.ba _ _ (.cons _ _ _ _ (.p _ _ (.bool false)) .nil))
          refine wpIn_seq (Af bx bj h1 hnd rj uv pd xM ub hex fun bq a2 fr gq iB rh => ?_)
          have fG := jL ({ s with aE := [], low := s.H.length } : au) (some R.aF) (.ba [.bool false])
          have dX := nI bj.bN _ _ _ _ _ (by rw [fG.1, fG.2.1]; exact aK _) hex
          have eC : sC C fid vars N base st.H.length l w.heap.size eU.b bE es bk st G w d { jc with aE := [] } bq a2 fr := by
           refine bM.on iZ (aK _) gq.clear (fun m hm => ?_) ix ?_ ?_ ?_
           · have := iB m hm
             rw [fG.1] at this; exact this
           · have := dX.1
             rw [fG.1, fG.2.1] at this; exact this
           · exact dX.2.trans fG.2.2
           · have := bM.marks.ext (iB 0 (cx _))
             rw [rh]; exact this
          have af := rf bx eC.rel (.tmp more) R.more pq
          rw [ux] at af
          refine wpIn_seq (wpIn_cond_false af.j1 (wpIn_exit ?_))
          show (if out = out then Q .normal a2 fr else _)
          rw [if_pos rfl]
          exact dy _ bq a2 fr LZ eC.bN ⟨⟨eC.rel.rel, eC.rel.env, eC.rel.size, c4 (asU _ _) (r7 eC.len)⟩, eC.ext, eC.marks⟩
        · cases ae
      · cases gn
    · cases ae
   ·
    obtain ⟨i, hi, hid, ko⟩ := ac3 he
    have qu : i < es.size := by
     rcases gg i es.size with q | q
     · exact q
     · rw [E8 q] at hi; cases hi
    obtain ⟨ac5, ac6, bC, q4, CE, vF, xq, -⟩ := xL bM.rel.rel cU bM.mp
    rw [cR, bM.map] at CE
    cases CE
    obtain ⟨L0, vP⟩ := Gl bM.rel.rel b5 bM.gone
    obtain ⟨kv, kP⟩ : ∃ kv, bk[i]? = some kv := ⟨bk[i]'(by omega), by simp⟩
    have L1 : bg fid ax aC kv.1 e.key := by
     obtain ⟨x, hx, hr⟩ := vF.get (i := i) (v := kv.1) (by rw [kh, kP]; rfl)
     rw [kh, iK, hi] at hx
     cases hx; exact hr
    have na : bg fid ax aC kv.2 e.val := by
     obtain ⟨x, hx, hr⟩ := xq.get (i := i) (v := kv.2) (by rw [kh, kP]; rfl)
     rw [kh, iK, hi] at hx
     cases hx; exact hr
    obtain ⟨ar, ae, ix, xN⟩ := oB d s aZ i kv hid kP
    have hT := turn bM.rel.rel b5 vP (.mapIter (some eU.b) bE ((ly es d).push e.born) bE) .gone fun _ _ _ => ⟨L0, vP⟩
    rw [Gm bM.gone] at hT
    have uy : bB.heap = (aC.putObj av.b (.mapIter (some eU.b) bE ((ly es d).push e.born) bE)).heap := by rw [uw, bZ]; rfl
    have xO : bb C fid ax s.H bB := hT.1.la uy
    have xP : ∀ m, m <= st.H.length -> Ext ax aC ax bB m s.H.length := fun m hm => (hT.2.le hm (aK _)).trans (.la uy LX LY _ _)
    have CF : bB.heap[w.heap.size]? = some (.mapIter (some eU.b) bE ((ly es d).push e.born) bE) := by
     rw [uy, <- bZ]; exact World.putObj_heap_same (bM.rel.rel.blk _ _ b5)
    have pb : bB.heap[eU.b]? = some (.map es bE) := by
     rw [uy, World.putObj_heap_other (fun q => ?_)]
     · exact bM.map
     · have := bM.rel.rel.inj _ _ _ _ b5 cU (by rw [cR, <- q]); omega
    have CG : dx C fid vars N ax s al bB := ⟨xO, fun t => (bM.rel.env t).ext bM.rel.rel (xP 0 (cx _)), bM.rel.size, bM.rel.low⟩
    have xQ := xP 0 (cx _)
    have CH : sC C fid vars N base st.H.length l w.heap.size eU.b bE es bk st G w (d ++ [i]) s ax al bB :=
     ⟨CG, bM.bN, bM.len, fun m hm => (bM.ext m hm).trans ((xP m (by omega)).le (aK _) bM.bN.1.len), bM.marks.ext xQ, bM.hi, bM.hm, bM.gone, bM.mp, by rw [LN es d hi]; exact CF, pb⟩
    have CI := L1.ext bM.rel.rel xQ
    have CJ := na.ext bM.rel.rel xQ
    unfold e9.round e9.step at ae
    split at ae
    case h_2 => cases ae
    rename_i s1 gn
    split at gn
    case h_2 => cases gn
    rename_i jc wr hex
    cases gn
    split at ae
    case h_2 => cases ae
    rename_i ux
    split at ae
    case isFalse => cases ae
    rename_i L2
    have L3 : bJ jc.aw it = .ptr st.H.length 0 := by
     have := tV _ _ L2
     rw [CC] at this
     exact this.trans (rm d s aZ)
    split at ae
    case h_2 => cases ae
    rename_i s2 L4 CK
    have xM : (execOp al.eval on).run C.P aC = .ok (.value (.tuple #[.bool true, e.key, e.val])) bB := by
     unfold execOp
     rw [pn]
     simp only [CD, Sem.run_bind, cf, Result.andThen_ok, Sem.run_pure]
    have ub : dx C fid vars N ax (({ s with aE := [], low := s.H.length } : au).put (some R.aF) (.ba [.bool true, kv.1, kv.2])) (al.put (some aF) (.tuple #[.bool true, e.key, e.val])) bB := by
     rw [rl]
     exact CG.reset.put mQ (.ba _ _ (.cons _ _ _ _ (.p _ _ (.bool true)) (.cons _ _ _ _ CI (.cons _ _ _ _ CJ .nil))))
    have fG := jL ({ s with aE := [], low := s.H.length } : au) (some R.aF) (.ba [.bool true, kv.1, kv.2])
    have dX := nI bj.bN _ _ _ _ _ (by rw [fG.1, fG.2.1]; exact aK _) hex
    have lA := jL ({ jc with aE := [] } : au) (some R.pair) (.ba [kv.1, kv.2])
    have qn : jc.low <= jc.H.length := dX.bound (by rw [fG.1, fG.2.1]; exact aK _)
    have uz := nI bj.bN _ _ _ _ _ (by rw [lA.1, lA.2.1]; exact qn) CK
    have xy : s2.low <= s2.H.length := uz.bound (by rw [lA.1, lA.2.1]; exact qn)
    obtain ⟨dd, eV, Gn, ac7, ac8⟩ : ∃ dd eV, exec call n R.body { s2 with aE := [] } = some (dd, eV) /\ (dd = .normal \/ dd = .exit ep) /\ eV = ar := by
     split at ae
     · rename_i eV xG; cases ae; exact ⟨_, _, xG, .inl rfl, rfl⟩
     · rename_i id eV xG
       split at ae
       · rename_i ac9; cases ae; exact ⟨_, _, xG, .inr (by rw [ac9, LO]), rfl⟩
       · cases ae
     · cases ae
    subst ac8
    have rn := lq bj.bN n _ _ _ _ (show ({ s2 with aE := [] } : au).low <= ({ s2 with aE := [] } : au).H.length from xy) Gn
    have ada : eV.low <= s2.low := rn.1.low
    have adb : s2.low <= jc.low := by have := uz.1.low; rw [lA.2.1] at this; exact this
    refine wpIn_seq (Af bx bj h1 hnd rj uv pd xM ub hex fun bq a2 fr gq iB rh => ?_)
    have eC : sC C fid vars N base st.H.length l w.heap.size eU.b bE es bk st G w (d ++ [i]) { jc with aE := [] } bq a2 fr := by
     refine CH.on iZ (aK _) gq.clear (fun m hm => ?_) (by show st.H.length < jc.low; omega) ?_ ?_ ?_
     · have := iB m hm
       rw [fG.1] at this; exact this
     · have := dX.1
       rw [fG.1, fG.2.1] at this; exact this
     · exact dX.2.trans fG.2.2
     · have := CH.marks.ext (iB 0 (cx _))
       rw [rh]; exact this
    have af := rf bx eC.rel (.tmp more) R.more pq
    rw [ux] at af
    refine wpIn_seq (wpIn_cond_true af.j1 (wpIn_skip ?_))
    show (Code.block ep (.seq (.region i2 jb false) body)).wpIn (ek ro) 0 C.P _ a2 fr
    refine wpIn_block (wpIn_seq ?_)
    have L5 : a2.eval (.tmp it) = .pointer (some ⟨w.heap.size, 0, none⟩) := by
     have := eC.rel.env it
     rw [show dD vars { jc with aE := [] } it = bJ jc.aw it by unfold dD; rw [if_pos po], L3] at this
     obtain ⟨h5, ej, -, eM⟩ := this.nB
     obtain ⟨gu, jH, hC⟩ := eC.hi
     rw [jH] at ej; cases ej
     rw [hC] at eM; exact eM
    have L6 : (execOp a2.eval ja).run C.P fr = .ok (.value (.tuple #[e.key, e.val])) fr := by
     have SA := eC.iter
     rw [LN es d hi] at SA
     have Cs := Sw (P := C.P) SA eC.map (by rw [<- iK] at hi; exact fm hi) cp.2
     unfold execOp
     rw [rk]
     simp only [L5, Sem.run_bind, Cs, Result.andThen_ok, Sem.run_pure]
    have CL := iB 0 (cx _)
    have L7 : dx C fid vars N bq (({ jc with aE := [] } : au).put (some R.pair) (.ba [kv.1, kv.2])) (a2.put (some pair) (.tuple #[e.key, e.val])) fr := by
     rw [uq]
     exact eC.rel.put uo (.ba _ _ (.cons _ _ _ _ (CI.ext xO CL) (.cons _ _ _ _ (CJ.ext xO CL) .nil)))
    refine Af bx bj h2 uk um zT nA L6 L7 CK fun iW a3 Ag xH ud Cv => ?_
    have pr : sC C fid vars N base st.H.length l w.heap.size eU.b bE es bk st G w (d ++ [i]) { s2 with aE := [] } iW a3 Ag := by
     refine eC.on iZ (aK _) xH.clear (fun m hm => ?_) (by show st.H.length < s2.low; omega) ?_ ?_ ?_
     · have := ud m hm
       rw [lA.1] at this; exact this
     · have := uz.1
       rw [lA.1, lA.2.1] at this
       exact ⟨this.len, c4 this.low qn, this.same⟩
     · exact uz.2.trans lA.2.2
     · have := eC.marks.ext (ud 0 (cx _))
       rw [Cv]; exact this
    show body.wpIn (ek ro) 0 C.P _ a3 Ag
    refine qo (n := n) cC bx bj body _ _ _ vS _ _ _ Gn iW a3 Ag ro base _ pr.rel ?_ pr.marks (c4 hb (pr.ext 0 (cx _)).size) fun CM a4 Gp F => ?_
    · have lv : ({ s2 with aE := [] } : au).ro = st.ro := pr.bN.2
      rw [lv]
      exact eB.ext (pr.ext 0 (cx _))
    have vT : sC C fid vars N base st.H.length l w.heap.size eU.b bE es bk st G w (d ++ [i]) eV CM a4 Gp :=
     pr.on iZ (aK _) F.rel F.ext ix ⟨rn.1.len, c4 rn.1.low xy, rn.1.same⟩ rn.2 F.marks
    have vK : ∃ d s ax, Inv d s /\ d.Nodup /\ (∀ i ∈ d, i < bk.length) /\ (leftOf es (ly es d)).size < bs /\ sC C fid vars N base st.H.length l w.heap.size eU.b bE es bk st G w d s ax a4 Gp := by
     refine ⟨d ++ [i], eV, CM, xN, Fe.2 ⟨Sz, by simp, fun x hx y hy => ?_⟩, fun x hx => ?_, by omega, vT⟩
     · simp only [dS, w0, or_false] at hy
       subst hy
       exact fun q => hid (q ▸ hx)
     · rcases jV.1 hx with q | q
       · exact kK x q
       · simp only [dS, w0, or_false] at q
         subst q; omega
    rcases ac7 with rfl | rfl
    · exact vK
    · show (if ep = ep then _ else _)
      rw [if_pos rfl]
      exact vK
 · have iz : (hD it st).H.length = st.H.length + 1 := by unfold hD; simp
   have ah := ch (st.H.length + 1) (by show st.H.length + 1 <= (hD it st).H.length; rw [iz]; exact aK _)
   have ez := qp 0 st.H.length (aK _)
   have asQ : (⟨cg G.β st.H.length ⟨w.heap.size, 0, 0, false⟩, G.I⟩ : bT).β l = some eU := by
    show cg G.β st.H.length ⟨w.heap.size, 0, 0, false⟩ l = some eU
    rw [dp (by omega)]; exact uu
   have xi : (⟨cg G.β st.H.length ⟨w.heap.size, 0, 0, false⟩, G.I⟩ : bT).β st.H.length = some ⟨w.heap.size, 0, 0, false⟩ := de _ _ _
   refine ⟨[], hD it st, G', ur, Fk, fun i hi => (by cases hi), wZ _, ⟨⟨bG.rel, bG.env, bG.size, ?_⟩, ⟨⟨?_, jA _ _, fun x hx => ?_⟩, rfl⟩, ?_, fun m hm => ?_, ?_, ?_, ?_, ?_, ?_, ?_, ?_⟩⟩
   · exact ov.low
   · show st.H.length <= (hD it st).H.length
     omega
   · have ed : x < min st.low st.H.length := hx
     show (st.H ++ [cE.gone])[x]? = _
     rw [hq (by omega)]
   · omega
   · exact (qp m st.H.length (aK _)).trans ((ch m (by show m <= (hD it st).H.length; omega)).le (aK _) (by show st.H.length <= (hD it st).H.length; omega))
   · rw [eL]
     exact (ev.ext ez).ext ah
   · exact vR ah xi rfl
   · exact vR ah asQ LQ
   · show (st.H ++ [cE.gone])[st.H.length]? = _
     simp
   · show (st.H ++ [cE.gone])[l]? = _
     rw [hq iZ]; exact mZ
   · have := vQ ah ov.rel xi (wZ _)
     rw [this]; exact oe _ _
   · have := vQ ah ov.rel asQ (by omega)
     rw [this, alloc_old (aa.rel.blk _ _ uu)]; exact fL
theorem ade (cC : C.P.follows .mixedOrders = true) (bx : eR C fid) (bj : gx C fid call) {i0 i1 i2 : Nat} {gK on ja : Oper} {jO jP jb : Array Oper} {oC mX mY : List Oper}
  {mt it aF more pair out ep : Nat} {tm qq qs : TypeId} {body : Code} {R : e9}
  (h0 : jO.toList = oC ++ [gK]) (ou : dH (C.oper vars N jO) oC = some R.t0) (ug : C.bV vars (.tmp mt) = some R.src) (ri : gK.op = .range tm (.tmp mt)) (uh : gK.dst = some it) (ui : gK.guard = none) (hit : it < N) (uj : C.P.underlying tm = some (.map qq qs))
  (h1 : jP.toList = on :: mX) (pn : on.op = .next (.tmp it) false) (hnd : on.dst = some aF) (rj : on.guard = none) (mQ : aF < N)
  (h2 : jb.toList = ja :: mY) (rk : ja.op = .entry (.tmp it)) (uk : ja.dst = some pair) (um : ja.guard = none) (uo : pair < N)
  (po : vars.contains it = true) (rl : R.aF = (aF, vars.contains aF)) (uq : R.pair = (pair, vars.contains pair))
  (pd : dH (C.oper vars N jP) mX = some R.t1) (nA : dH (C.oper vars N jb) mY = some R.t2) (pq : C.bV vars (.tmp more) = some R.more) (vS : C.code vars N body = some R.body) (LO : R.ep = ep) (CC : R.it = it)
  {iC st : au} {wr : List Bool} (he : c9 call R.t0 { iC with aE := [] } [] = some (st, wr)) {l : Nat} {bk : List (V × V)} (qt : R.src.ag st.aE st.aw = .map l) (mZ : st.H[l]? = some (.map bk)) (Inv : List Nat -> au -> Prop) (Out : au -> Prop)
  (ur : Inv [] (hD it st)) (rm : ∀ d s, Inv d s -> bJ s.aw it = .ptr st.H.length 0)
  (oB : ∀ d s, Inv d s -> ∀ i kv, i ∉ d -> bk[i]? = some kv -> ∃ ar, R.round call n kv.1 kv.2 s = some ar /\ st.H.length < ar.low /\ Inv (d ++ [i]) ar)
  (h9 : ∀ d s, Inv d s -> d.Nodup -> (∀ i, i ∈ d ↔ i < bk.length) -> ∃ ar, R.fin call s = some ar /\ st.H.length < ar.low /\ Out ar)
  {a : Act} {ro : Option Nat} {base : Nat} {Q : Exit -> Act -> World -> Prop} (aa : dx C fid vars N G iC a w) (eB : ua G iC.ro ro) (ev : j7 C G w base a.defers) (hb : base <= w.heap.size)
  (dy : ∀ ar G' bf w', Out ar -> fU iC { ar with low := min st.low st.H.length } -> Fin C fid vars N base iC G w { ar with low := min st.low st.H.length } G' bf w' -> Q .normal bf w') :
  (Code.seq (.region i0 jO false) (.block out (.loop (.seq (.region i1 jP false) (.seq (.cond (.tmp more) .skip (.exit out)) (.block ep (.seq (.region i2 jb false) body))))))).wpIn (ek ro) 0 C.P Q a w := by
 have dX := nI bj.bN _ _ _ _ _ (show ({ iC with aE := [] } : au).low <= ({ iC with aE := [] } : au).H.length from aa.low) he
 have xR : fU iC st := dX
 have dP : jO.size = oC.length + 1 := by rw [<- gW, h0]; simp
 refine wpIn_seq (wpIn_region ?_)
 rw [dP, Fa]
 refine LM bx bj (k0 := 0) (fun j hj => by rw [eF, <- iK, h0, hq hj]) ou aa.clear he fun ax al aC bG ch eL => ?_
 have ez := ch 0 (cx _)
 have ai : jO[0 + oC.length]? = some gK := by rw [eF, <- iK, h0]; simp
 have CN : j7 C ax aC base al.defers := by rw [eL]; exact ev.ext ez
 rw [th, wpOpsIn_cons]
 exact (ac4 (n := n) cC bx bj ai ug ri uh ui hit uj h1 pn hnd rj mQ h2 rk uk um uo po rl uq pd nA pq vS LO CC qt mZ Inv Out ur rm oB h9 bG (by rw [xR.2]; exact eB.ext ez) CN (c4 hb ez.size)
  fun ar G' bf w' ho ae F => dy ar G' bf w' ho (xR.trans ae) ((Fin.trans (st := iC) (bW := st) ⟨bG, ch, CN⟩ F xR ae)))
end
end Go.Abs
