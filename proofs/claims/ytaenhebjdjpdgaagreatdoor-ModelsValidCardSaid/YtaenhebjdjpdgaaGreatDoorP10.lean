/- Texts of this claim, joined and written short by a program. -/
import Derived.Test.YtaenhebjdjpdgaaGreatDoorP09
import Derived.Test.YtaenhebjdjpdgaaGreatDoorP01
import Derived.Test.YtaenhebjdjpdgaaGreatDoorProg
import Derived.Test.YtaenhebjdjpdgaaGreatDoorP02
import Derived.Tactics
import Derived.Tactics2
import Derived.Defers
import Derived.Recover
import Derived.Laws.Pointers
import Derived.TacticsInMore
import Derived.RegionIn
import Derived.LoopNIn
import Derived.RecoverIn
import Derived.Test.YtaenhebjdjpdgaaGreatDoorP00
set_option linter.unusedVariables false
set_option linter.unusedSimpArgs false
namespace Go.Abs
open Go
variable {C : Ctx} {fid : Nat -> Nat} {w w' : World} {G G' : bT} {H H' : Heap}
structure e9 where
 t0 : List b3
 src : aj
 it : Nat
 aF : Nat × Bool
 t1 : List b3
 more : aj
 ep : Nat
 pair : Nat × Bool
 t2 : List b3
 body : cm
def e9.step (R : e9) (call : c3) (e : V) (st : au) : Option au :=
 match c9 call R.t1 (({ st with aE := [] } : au).put (some R.aF) e) [] with
 | some (aU, _) => some { aU with aE := [] }
 | none => none
def e9.round (R : e9) (call : c3) (n : Nat) (k v : V) (st : au) : Option au :=
 match R.step call (.ba [.bool true, k, v]) { st with low := st.H.length } with
 | some bW => match R.more.ag bW.aE bW.aw with
   | .bool true =>
     if dN (bJ bW.aw R.it) (bJ st.aw R.it) = true then
      match c9 call R.t2 (({ bW with aE := [] } : au).put (some R.pair) (.ba [k, v])) [] with
      | some (gi, _) => match exec call n R.body { gi with aE := [] } with
        | some (.normal, kO) => some kO
        | some (.exit id, kO) => if id = R.ep then some kO else none
        | _ => none
      | none => none
     else none
   | _ => none
 | none => none
def e9.fin (R : e9) (call : c3) (st : au) : Option au :=
 match R.step call (.ba [.bool false]) { st with low := st.H.length } with
 | some bW => match R.more.ag bW.aE bW.aw with
   | .bool false => some bW
   | _ => none
 | none => none
def hD (it : Nat) (st : au) : au := { st with aE := [], aw := fR st.aw it (.ptr st.H.length 0), H := st.H ++ [.gone] }
section
variable {vars : List Nat} {N : Nat} {call : c3} {n : Nat}
theorem Af {id : Nat} {ops : Array Oper} {gK : Oper} {os : List Oper} {d0 : Nat} {bz : List b3} {bW aU : au} {wr : List Bool} {a : Act} {x : Value} {aC : World} {ax : bT} {Q : Exit -> Act -> World -> Prop} {ro : Option Nat}
  (bx : eR C fid) (bj : gx C fid call) (sz : ops.toList = gK :: os) (hd : gK.dst = some d0) (bt : gK.guard = none) (gr : ∀ c, gK.op ≠ .defer c) (hm : dH (C.oper vars N ops) os = some bz)
  (cf : (execOp a.eval gK).run C.P w = .ok (.value x) aC) (gG : dx C fid vars N ax bW (a.put (some d0) x) aC) (he : c9 call bz bW [] = some (aU, wr))
  (dy : ∀ G' bf w', dx C fid vars N G' aU bf w' -> (∀ m, m <= aU.low -> Ext ax aC G' w' m bW.H.length) -> bf.defers = a.defers -> Q .normal bf w') :
  (Code.region id ops false).wpIn (ek ro) 0 C.P Q a w := by
 obtain ⟨S, a8, h0, hn, -, hs⟩ := vI _ _ _ _ _ he
 have hlen : bz.length = os.length := tN _ hm
 have dP : ops.size = os.length + 1 := by rw [<- gW, sz]; rfl
 have key : ∀ k j, j + k = os.length -> ∀ bq al bB, dx C fid vars N bq (S j) al bB -> (∀ m, m <= (S j).low -> Ext ax aC bq bB m bW.H.length) -> al.defers = a.defers -> bW.H.length <= (S j).H.length ->
   wpOpsIn (ek ro) 0 C.P ops Q (List.range' (j + 1) k) al bB := by
  intro k
  induction k with
  | zero =>
    intro j hj bq al bB bG ch eL _
    have e : j = bz.length := by omega
    subst e
    rw [hn] at bG ch
    exact dy bq al bB bG ch eL
  | succ k ih =>
    intro j hj bq al bB bG ch eL gq
    have oj : j < os.length := by omega
    have j0 : os[j]? = some os[j] := by simp [oj]
    have ho : ops[j + 1]? = some os[j] := by rw [<- iK, sz]; simp [oj]
    have Cq : j < bz.length := by omega
    have fF : bz[j]? = some bz[j] := by simp [Cq]
    have bd : sv C vars N ops os[j] bz[j] := zU (tO _ hm j0 fF)
    have cp := hs j _ fF
    rw [th, wpOpsIn_cons]
    have eT := cp.bN bj.bN
    refine xx (T := fun _ => True) bx bj ho bd cp bG.rel (fun _ => .inl rfl) bG.low (fun t _ => bG.env t) (fun x _ => by cases x <;> trivial) (fun _ _ _ _ _ => trivial) bG.size ?_
    intro x fr iW p1 p2 p3
    have xA : bb C fid iW (S (j + 1)).H fr := by
     cases ae : a8 j with
     | true => rw [ae] at p1; exact p1
     | false => rw [ae] at p1; rw [cp.still bj.bN ae]; exact p1
    have mT := p2 0 (cx _)
    refine ih (j + 1) (by omega) iW _ fr ⟨xA, fun t => ?_, by rw [vH]; exact bG.size, eT.bound bG.low⟩ (fun m hm => (ch m (c4 hm eT.1.low)).trans ((p2 m hm).le (aK _) gq)) (by rw [put_defers]; exact eL)
     (c4 gq eT.1.len)
    refine xz (fun d hd => by rw [bG.size]; exact bd.lt d hd) (fun h => p3 t h) (fun h => ?_)
    rw [cp.look bd h]
    exact (bG.env t).ext bG.rel mT
 refine wpIn_region ?_
 rw [dP, Fa, th, wpOpsIn_cons]
 have ac0 : ops[0]? = some gK := by rw [<- iK, sz]; rfl
 refine Gk ac0 bt gr cf ?_
 rw [hd]
 rw [<- h0] at gG
 exact key os.length 0 (by omega) ax _ aC gG (fun m _ => .refl _ _ _ _) (put_defers _ _ _) (by rw [h0]; exact aK _)
theorem LM {k0 r : Nat} {ops : Array Oper} {os : List Oper} {bz : List b3} {bW aU : au} {wr : List Bool} {a : Act} {aC : World} {ax : bT} {Q : Exit -> Act -> World -> Prop} {ro : Option Nat}
  (bx : eR C fid) (bj : gx C fid call) (xK : ∀ j, j < os.length -> ops[k0 + j]? = os[j]?) (hm : dH (C.oper vars N ops) os = some bz)
  (gG : dx C fid vars N ax bW a aC) (he : c9 call bz bW [] = some (aU, wr))
  (dy : ∀ G' bf w', dx C fid vars N G' aU bf w' -> (∀ m, m <= aU.low -> Ext ax aC G' w' m bW.H.length) -> bf.defers = a.defers -> wpOpsIn (ek ro) 0 C.P ops Q (List.range' (k0 + os.length) r) bf w') :
  wpOpsIn (ek ro) 0 C.P ops Q (List.range' k0 (os.length + r)) a aC := by
 obtain ⟨S, a8, h0, hn, -, hs⟩ := vI _ _ _ _ _ he
 have hlen : bz.length = os.length := tN _ hm
 have key : ∀ k j, j + k = os.length -> ∀ bq al bB, dx C fid vars N bq (S j) al bB -> (∀ m, m <= (S j).low -> Ext ax aC bq bB m bW.H.length) -> al.defers = a.defers -> bW.H.length <= (S j).H.length ->
   wpOpsIn (ek ro) 0 C.P ops Q (List.range' (k0 + j) (k + r)) al bB := by
  intro k
  induction k with
  | zero =>
    intro j hj bq al bB bG ch eL _
    have e : j = bz.length := by omega
    subst e
    rw [hn] at bG ch
    rw [hlen, eF]
    exact dy bq al bB bG ch eL
  | succ k ih =>
    intro j hj bq al bB bG ch eL gq
    have oj : j < os.length := by omega
    have j0 : os[j]? = some os[j] := by simp [oj]
    have ho : ops[k0 + j]? = some os[j] := (xK j oj).trans j0
    have Cq : j < bz.length := by omega
    have fF : bz[j]? = some bz[j] := by simp [Cq]
    have bd : sv C vars N ops os[j] bz[j] := zU (tO _ hm j0 fF)
    have cp := hs j _ fF
    rw [show k + 1 + r = (k + r) + 1 by omega, th, wpOpsIn_cons]
    have eT := cp.bN bj.bN
    refine xx (T := fun _ => True) bx bj ho bd cp bG.rel (fun _ => .inl rfl) bG.low (fun t _ => bG.env t) (fun x _ => by cases x <;> trivial) (fun _ _ _ _ _ => trivial) bG.size ?_
    intro x fr iW p1 p2 p3
    have xA : bb C fid iW (S (j + 1)).H fr := by
     cases ae : a8 j with
     | true => rw [ae] at p1; exact p1
     | false => rw [ae] at p1; rw [cp.still bj.bN ae]; exact p1
    have mT := p2 0 (cx _)
    refine ih (j + 1) (by omega) iW _ fr ⟨xA, fun t => ?_, by rw [vH]; exact bG.size, eT.bound bG.low⟩ (fun m hm => (ch m (c4 hm eT.1.low)).trans ((p2 m hm).le (aK _) gq)) (by rw [put_defers]; exact eL)
     (c4 gq eT.1.len)
    refine xz (fun d hd => by rw [bG.size]; exact bd.lt d hd) (fun h => p3 t h) (fun h => ?_)
    rw [cp.look bd h]
    exact (bG.env t).ext bG.rel mT
 rw [<- h0] at gG
 exact key os.length 0 (by omega) ax _ aC gG (fun m _ => .refl _ _ _ _) rfl (by rw [h0]; exact aK _)
theorem vQ {m k : Nat} (h : Ext G w G' w' m k) (aa : bb C fid G H w) {l : Nat} {h0 : Home} (hb : G.β l = some h0) (hl : l < m) : w'.heap[h0.b]? = w.heap[h0.b]? :=
 h.ei h0.b (aa.blk l h0 hb) fun fp h' ah e2 => .inr (by have := aa.inj fp l h' h0 ah hb e2; omega)
theorem vR {m k : Nat} (h : Ext G w G' w' m k) {l : Nat} {h0 : Home} (hb : G.β l = some h0) (ht : h0.tag = 0) : ∃ h', G'.β l = some h' /\ h'.b = h0.b := by
 obtain ⟨h', e, -, z, ac1, -⟩ := h.homes l h0 hb
 exact ⟨h', e, (ac1 ((z ht).trans ht.symm)).1⟩
theorem Gl (aa : bb C fid G H w) {l : Nat} {h : Home} (hb : G.β l = some h) (hl : H[l]? = some .gone) : h.tag = 0 /\ h.dW = false := by
 obtain ⟨o, ho, hr⟩ := aa.obj l h hb
 rw [hl] at ho; cases ho; exact hr
theorem xL (aa : bb C fid G H w) {l : Nat} {h : Home} (hb : G.β l = some h) {bk : List (V × V)} (hl : H[l]? = some (.map bk)) : h.tag = 0 /\ h.dW = false /\ ∃ es bE, w.heap[h.b]? = some (.map es bE) /\
  a6 fid G w (bk.map (·.1)) (es.toList.map (·.key)) /\ a6 fid G w (bk.map (·.2)) (es.toList.map (·.val)) /\ nx es bE := by
 obtain ⟨o, ho, hr⟩ := aa.obj l h hb
 rw [hl] at ho; cases ho; exact hr
theorem Gm {H : Heap} {l : Nat} {o : cE} (h : H[l]? = some o) : H.set l o = H := by
 apply zn
 intro i
 by_cases e : l = i
 · subst e
   have hl : l < H.length := by
    rcases gg l H.length with q | q
    · exact q
    · rw [mF q] at h; cases h
   rw [tc hl, h]
 · rw [k4 e]
def ly (es : Array MapEntry) (d : List Nat) : Array Nat := (d.map fun i => ((es[i]?).map (·.born)).getD 0).toArray
theorem LN (es : Array MapEntry) (d : List Nat) {i : Nat} {e : MapEntry} (h : es[i]? = some e) : ly es (d ++ [i]) = (ly es d).push e.born := by
 unfold ly
 rw [oY, eD, n5, h]
 simp
structure sC (C : Ctx) (fid : Nat -> Nat) (vars : List Nat) (N base li l r jN bE : Nat) (es : Array MapEntry) (bk : List (V × V)) (st : au) (G : bT) (w : World) (d : List Nat) (s : au) (ax : bT) (al : Act) (aC : World) : Prop where
 rel : dx C fid vars N ax s al aC
 bN : fU st { s with low := min st.low li }
 len : li < s.H.length
 ext : ∀ m, m <= min st.low li -> Ext G w ax aC m st.H.length
 marks : j7 C ax aC base al.defers
 hi : ∃ h, ax.β li = some h /\ h.b = r
 hm : ∃ h, ax.β l = some h /\ h.b = jN
 gone : s.H[li]? = some .gone
 mp : s.H[l]? = some (.map bk)
 iter : aC.heap[r]? = some (.mapIter (some jN) bE (ly es d) bE)
 map : aC.heap[jN]? = some (.map es bE)
theorem sC.on {base li l r jN bE : Nat} {es : Array MapEntry} {bk : List (V × V)} {st : au} {d : List Nat} {s ar : au} {ax bq : bT} {al a2 : Act} {aC bB : World}
  (h : sC C fid vars N base li l r jN bE es bk st G w d s ax al aC) (iZ : l < li) (aq2 : li <= st.H.length) (aa : dx C fid vars N bq ar a2 bB) (dw : ∀ m, m <= ar.low -> Ext ax aC bq bB m s.H.length) (ix : li < ar.low) (dX : Fr s.H s.H.length ar.H ar.low) (eB : ar.ro = s.ro)
  (hd : j7 C bq bB base a2.defers) : sC C fid vars N base li l r jN bE es bk st G w d ar bq a2 bB := by
 obtain ⟨h1, ah, q1⟩ := h.hi
 obtain ⟨U, e2, aS⟩ := h.hm
 have g1 := Gl h.rel.rel ah h.gone
 have g2 := xL h.rel.rel e2 h.mp
 have lz := dw _ (aK _)
 have lg := h.bN.1.len
 refine ⟨aa, ⟨⟨c4 h.bN.1.len dX.len, jA _ _, fun x hx => ?_⟩, eB.trans h.bN.2⟩, pY h.len dX.len, fun m hm => ?_, hd, ?_, ?_, ?_, ?_, ?_, ?_⟩
 · have ed : x < min st.low li := hx
   exact (dX.same x (by omega)).trans (h.bN.1.same x hx)
 · exact (h.ext m hm).trans ((dw m (by omega)).le (aK _) lg)
 · obtain ⟨h', e', q'⟩ := vR lz ah g1.1; exact ⟨h', e', q'.trans q1⟩
 · obtain ⟨h', e', q'⟩ := vR lz e2 g2.1; exact ⟨h', e', q'.trans aS⟩
 · rw [dX.same li ix]; exact h.gone
 · rw [dX.same l (by omega)]; exact h.mp
 · have := vQ lz h.rel.rel ah ix
   rw [q1] at this; rw [this]; exact h.iter
 · have := vQ lz h.rel.rel e2 (by omega)
   rw [aS] at this; rw [this]; exact h.map
theorem dx.reset {st : au} {a : Act} (h : dx C fid vars N G st a w) : dx C fid vars N G { st with aE := [], low := st.H.length } a w :=
 ⟨h.rel, h.clear.env, h.size, aK _⟩
theorem ac2 {es : Array MapEntry} {d : List Nat} (hn : (es.toList.map (·.born)).Nodup) (aH : ∀ i ∈ d, i < es.size) (h : (leftOf es (ly es d)).size = 0) : ∀ i, i < es.size -> i ∈ d := by
 intro i hi
 have h0 : leftOf es (ly es d) = #[] := Y3 h
 unfold leftOf at h0
 rw [Y4] at h0
 have h1 := h0 es[i] (by simp)
 simp only [pZ, Bool.not_eq_false] at h1
 rw [Y9] at h1
 unfold ly at h1
 simp only [List.mem_toArray, ey] at h1
 obtain ⟨j, hj, hb⟩ := h1
 have oj := aH j hj
 simp only [Array.getElem?_eq_getElem oj, r5, vg] at hb
 have : j = i := by
  have Sx : j < (es.toList.map (·.born)).length := by simpa using oj
  have Sy : i < (es.toList.map (·.born)).length := by simpa using hi
  have hp := Py.1 hn
  rcases Nat.lt_trichotomy j i with q | q | q
  · exact absurd (by simpa using hb) (hp j i Sx Sy q)
  · exact q
  · exact absurd (by simpa using hb.symm) (hp i j Sy Sx q)
 rw [<- this]; exact hj
theorem ac3 {es : Array MapEntry} {d : List Nat} {e : MapEntry} (he : e ∈ (leftOf es (ly es d)).toList) : ∃ i, es[i]? = some e /\ i ∉ d /\ (leftOf es (ly es (d ++ [i]))).size < (leftOf es (ly es d)).size := by
 have he' : e ∈ es.toList /\ (ly es d).contains e.born = false := by
  unfold leftOf at he
  simpa using he
 obtain ⟨i, hi⟩ := nu.1 he'.1
 rw [iK] at hi
 refine ⟨i, hi, fun hid => ?_, ?_⟩
 · have : (ly es d).contains e.born = true := by
    rw [Y9]
    unfold ly
    simp only [List.mem_toArray, ey]
    exact ⟨i, hid, by rw [hi]; rfl⟩
   rw [this] at he'; cases he'.2
 · rw [LN es d hi]
   unfold leftOf
   have key : ∀ p : MapEntry -> Bool, (es.filter p).size = (es.toList.filter p).length := fun p => by rw [<- gW, Array.toList_filter]
   rw [key, key]
   refine filter_lt _ _ (fun x hx => ?_) e ?_ ?_ _ he'.1
   · simp only [Array.contains_push, pZ, JH] at hx ⊢
     simp at hx ⊢
     exact hx.1
   · rw [he'.2]; rfl
   · simp
theorem ac4 (cC : C.P.follows .mixedOrders = true) (bx : eR C fid) (bj : gx C fid call) {k0 i1 i2 : Nat} {gK on ja : Oper} {jO jP jb : Array Oper} {mX mY : List Oper}
  {mt it aF more pair out ep : Nat} {tm qq qs : TypeId} {body : Code} {R : e9}
  (h0 : jO[k0]? = some gK) (ug : C.bV vars (.tmp mt) = some R.src) (ri : gK.op = .range tm (.tmp mt)) (uh : gK.dst = some it) (ui : gK.guard = none) (hit : it < N) (uj : C.P.underlying tm = some (.map qq qs))
  (h1 : jP.toList = on :: mX) (pn : on.op = .next (.tmp it) false) (gr : on.dst = some aF) (rj : on.guard = none) (mQ : aF < N)
  (U : jb.toList = ja :: mY) (rk : ja.op = .entry (.tmp it)) (uk : ja.dst = some pair) (um : ja.guard = none) (uo : pair < N)
  (po : vars.contains it = true) (rl : R.aF = (aF, vars.contains aF)) (uq : R.pair = (pair, vars.contains pair))
  (pd : dH (C.oper vars N jP) mX = some R.t1) (nA : dH (C.oper vars N jb) mY = some R.t2) (pq : C.bV vars (.tmp more) = some R.more) (vS : C.code vars N body = some R.body) (LO : R.ep = ep) (CC : R.it = it)
  {st : au} {l : Nat} {bk : List (V × V)} (qt : R.src.ag st.aE st.aw = .map l) (mZ : st.H[l]? = some (.map bk)) (Inv : List Nat -> au -> Prop) (Out : au -> Prop)
  (ur : Inv [] (hD it st)) (rm : ∀ d s, Inv d s -> bJ s.aw it = .ptr st.H.length 0)
  (oB : ∀ d s, Inv d s -> ∀ i kv, i ∉ d -> bk[i]? = some kv -> ∃ ar, R.round call n kv.1 kv.2 s = some ar /\ st.H.length < ar.low /\ Inv (d ++ [i]) ar)
  (h9 : ∀ d s, Inv d s -> d.Nodup -> (∀ i, i ∈ d ↔ i < bk.length) -> ∃ ar, R.fin call s = some ar /\ st.H.length < ar.low /\ Out ar)
  {a : Act} {ro : Option Nat} {base : Nat} {Q LP : Exit -> Act -> World -> Prop} (aa : dx C fid vars N G st a w) (eB : ua G st.ro ro) (ev : j7 C G w base a.defers) (hb : base <= w.heap.size)
  (dy : ∀ ar G' bf w', Out ar -> fU st { ar with low := min st.low st.H.length } -> Fin C fid vars N base st G w { ar with low := min st.low st.H.length } G' bf w' -> Q .normal bf w') :
  wpOpIn (ek ro) 0 C.P jO LP k0 (fun bf w' => (Code.block out (.loop (.seq (.region i1 jP false) (.seq (.cond (.tmp more) .skip (.exit out)) (.block ep (.seq (.region i2 jb false) body)))))).wpIn (ek ro) 0 C.P Q bf w') a w := by
 have lh := rf bx aa (.tmp mt) R.src ug
 rw [qt] at lh
 obtain ⟨eU, uu, LQ, LR⟩ := lh.mapInv
 obtain ⟨-, -, es, bE, fL, ee, cO, cp⟩ := xL aa.rel uu mZ
 have iZ : l < st.H.length := aa.rel.lt uu
 have Cb : (execOp a.eval gK).run C.P w = .ok (.value (.pointer (some ⟨w.heap.size, 0, none⟩))) (w.alloc (.mapIter (some eU.b) bE #[] bE)) := by
  unfold execOp
  rw [ri]
  have e : a.eval (.tmp mt) = .map (some eU.b) := LR
  simp only [e, Sem.run_bind, run_range_map w tm qq qs eU.b es bE uj fL, Result.andThen_ok, Sem.run_pure]
 have LS : bk.length = es.size := by
  have := ee.length
  simpa using this.symm
 have LU := aa.rel.push .gone (.mapIter (some eU.b) bE #[] bE) 0 0 ⟨rfl, rfl⟩
 have qp : ∀ m k, k <= st.H.length -> Ext G w ⟨cg G.β st.H.length ⟨w.heap.size, 0, 0, false⟩, G.I⟩ (w.alloc (.mapIter (some eU.b) bE #[] bE)) m k := fun m k ai => (Ext.push aa.rel (.mapIter (some eU.b) bE #[] bE) 0 0 m).le (aK _) ai
 have LV : dx C fid vars N ⟨cg G.β st.H.length ⟨w.heap.size, 0, 0, false⟩, G.I⟩ { st with H := st.H ++ [.gone] } a (w.alloc (.mapIter (some eU.b) bE #[] bE)) :=
  ⟨LU, fun t => (aa.env t).ext aa.rel (qp 0 0 (cx _)), aa.size, by have := aa.low; simp only [kg, iv, qQ]; omega⟩
 have ov : dx C fid vars N ⟨cg G.β st.H.length ⟨w.heap.size, 0, 0, false⟩, G.I⟩ (hD it st) (a.put (some it) (.pointer (some ⟨w.heap.size, 0, none⟩))) (w.alloc (.mapIter (some eU.b) bE #[] bE)) := by
  have := LV.put hit (v := .ptr st.H.length 0) (x := .pointer (some ⟨w.heap.size, 0, none⟩)) (.ptr st.H.length 0 ⟨w.heap.size, 0, 0, false⟩ (de _ _ _) rfl)
  rw [po] at this
  exact this.clear
 suffices LW : ∀ G' bf w', dx C fid vars N G' (hD it st) bf w' -> (∀ m, m <= (hD it st).H.length -> Ext ⟨cg G.β st.H.length ⟨w.heap.size, 0, 0, false⟩, G.I⟩ (w.alloc (.mapIter (some eU.b) bE #[] bE)) G' w' m (hD it st).H.length) ->
   bf.defers = a.defers -> (Code.block out (.loop (.seq (.region i1 jP false) (.seq (.cond (.tmp more) .skip (.exit out)) (.block ep (.seq (.region i2 jb false) body)))))).wpIn (ek ro) 0 C.P Q bf w' by
  refine Gk h0 ui (by rw [ri]; simp) Cb ?_
  rw [uh]
  exact LW _ _ _ ov (fun m _ => .refl _ _ _ _) (by rw [put_defers])
 intro G' bf w' bG ch eL
 refine wpIn_block (Ga (fun k al aC => ∃ d s ax, Inv d s /\ d.Nodup /\ (∀ i ∈ d, i < bk.length) /\ (leftOf es (ly es d)).size < k /\ sC C fid vars N base st.H.length l w.heap.size eU.b bE es bk st G w d s ax al aC) ?_
  (j := (leftOf es (ly es [])).size + 1) ?_)
 · rintro k al aC ⟨d, s, ax, aZ, Sz, kK, ai, bM⟩
   obtain ⟨bs, rfl⟩ : ∃ bs, k = bs + 1 := ⟨k - 1, by omega⟩
   refine ⟨bs, rfl, ?_⟩
   obtain ⟨av, b5, bZ⟩ := bM.hi
   obtain ⟨bc, cU, cR⟩ := bM.hm
   have CD : al.eval (.tmp it) = .pointer (some ⟨w.heap.size, 0, none⟩) := by
    have := bM.rel.env it
    rw [show dD vars s it = bJ s.aw it by unfold dD; rw [if_pos po], rm d s aZ] at this
    obtain ⟨h5, ej, -, eM⟩ := this.nB
    rw [b5] at ej; cases ej
    rw [bZ] at eM; exact eM
   have uv : ∀ c, on.op ≠ .defer c := by rw [pn]; simp
   have zT : ∀ c, ja.op ≠ .defer c := by rw [rk]; simp
   rcases Sv (P := C.P) on.type bM.iter bM.map cp.1 (aK _) with ⟨dP, cf⟩ | ⟨e, he, bB, uw, LX, LY, cf⟩
   ·
    have eo := ac2 cp.2 (fun i hi => by rw [<- LS]; exact kK i hi) dP
    obtain ⟨ar, ae, ix, LZ⟩ := h9 d s aZ Sz fun i => ⟨kK i, fun hi => eo i (by rw [<- LS]; exact hi)⟩
    unfold e9.fin e9.step at ae
    split at ae
    · rename_i s1 gn
      split at gn
      · rename_i jc wr hex
        cases gn
        split at ae
        · rename_i ux
          cases ae
          have xM : (execOp al.eval on).run C.P aC = .ok (.value (.tuple #[.bool false])) aC := by
           unfold execOp
           rw [pn]
           simp only [CD, Sem.run_bind, cf, Result.andThen_ok, Sem.run_pure]
          have ub : dx C fid vars N ax (({ s with aE := [], low := s.H.length } : au).put (some R.aF) (.ba [.bool false])) (al.put (some aF) (.tuple #[.bool false])) aC := by
           rw [rl]
           exact bM.rel.reset.put mQ (.ba _ _ (.cons _ _ _ _ (.p _ _ (.bool false)) .nil))
          refine wpIn_seq (Af bx bj h1 gr rj uv pd xM ub hex fun bq a2 fr gq iB rh => ?_)
          have fG := jL ({ s with aE := [], low := s.H.length } : au) (some R.aF) (.ba [.bool false])
          have dX := nI bj.bN _ _ _ _ _ (by rw [fG.1, fG.2.1]; exact aK _) hex
          have eC : sC C fid vars N base st.H.length l w.heap.size eU.b bE es bk st G w d { jc with aE := [] } bq a2 fr := by
           refine bM.on iZ (aK _) gq.clear (fun m hm => ?_) ix ?_ ?_ ?_
           · have := iB m hm
             rw [fG.1] at this; exact this
           · have := dX.1
             rw [fG.1, fG.2.1] at this; exact this
           · exact dX.2.trans fG.2.2
           · have := bM.marks.ext (iB 0 (cx _))
             rw [rh]; exact this
          have af := rf bx eC.rel (.tmp more) R.more pq
          rw [ux] at af
          refine wpIn_seq (wpIn_cond_false af.j1 (wpIn_exit ?_))
          show (if out = out then Q .normal a2 fr else _)
          rw [if_pos rfl]
          exact dy _ bq a2 fr LZ eC.bN ⟨⟨eC.rel.rel, eC.rel.env, eC.rel.size, c4 (p0 _ _) (r7 eC.len)⟩, eC.ext, eC.marks⟩
        · cases ae
      · cases gn
    · cases ae
   ·
    obtain ⟨i, hi, hid, ko⟩ := ac3 he
    have qu : i < es.size := by
     rcases gg i es.size with q | q
     · exact q
     · rw [E8 q] at hi; cases hi
    obtain ⟨ac5, ac6, bC, q4, CE, vF, xq, -⟩ := xL bM.rel.rel cU bM.mp
    rw [cR, bM.map] at CE
    cases CE
    obtain ⟨L0, vP⟩ := Gl bM.rel.rel b5 bM.gone
    obtain ⟨kv, kP⟩ : ∃ kv, bk[i]? = some kv := ⟨bk[i]'(by omega), by simp⟩
    have L1 : bg fid ax aC kv.1 e.key := by
     obtain ⟨x, hx, hr⟩ := vF.get (i := i) (v := kv.1) (by rw [kh, kP]; rfl)
     rw [kh, iK, hi] at hx
     cases hx; exact hr
    have na : bg fid ax aC kv.2 e.val := by
     obtain ⟨x, hx, hr⟩ := xq.get (i := i) (v := kv.2) (by rw [kh, kP]; rfl)
     rw [kh, iK, hi] at hx
     cases hx; exact hr
    obtain ⟨ar, ae, ix, xN⟩ := oB d s aZ i kv hid kP
    have hT := turn bM.rel.rel b5 vP (.mapIter (some eU.b) bE ((ly es d).push e.born) bE) .gone fun _ _ _ => ⟨L0, vP⟩
    rw [Gm bM.gone] at hT
    have uy : bB.heap = (aC.putObj av.b (.mapIter (some eU.b) bE ((ly es d).push e.born) bE)).heap := by rw [uw, bZ]; rfl
    have xO : bb C fid ax s.H bB := hT.1.la uy
    have xP : ∀ m, m <= st.H.length -> Ext ax aC ax bB m s.H.length := fun m hm => (hT.2.le hm (aK _)).trans (.la uy LX LY _ _)
    have CF : bB.heap[w.heap.size]? = some (.mapIter (some eU.b) bE ((ly es d).push e.born) bE) := by
     rw [uy, <- bZ]; exact World.putObj_heap_same (bM.rel.rel.blk _ _ b5)
    have pb : bB.heap[eU.b]? = some (.map es bE) := by
     rw [uy, World.putObj_heap_other (fun q => ?_)]
     · exact bM.map
     · have := bM.rel.rel.inj _ _ _ _ b5 cU (by rw [cR, <- q]); omega
    have CG : dx C fid vars N ax s al bB := ⟨xO, fun t => (bM.rel.env t).ext bM.rel.rel (xP 0 (cx _)), bM.rel.size, bM.rel.low⟩
    have xQ := xP 0 (cx _)
    have CH : sC C fid vars N base st.H.length l w.heap.size eU.b bE es bk st G w (d ++ [i]) s ax al bB :=
     ⟨CG, bM.bN, bM.len, fun m hm => (bM.ext m hm).trans ((xP m (by omega)).le (aK _) bM.bN.1.len), bM.marks.ext xQ, bM.hi, bM.hm, bM.gone, bM.mp, by rw [LN es d hi]; exact CF, pb⟩
    have CI := L1.ext bM.rel.rel xQ
    have CJ := na.ext bM.rel.rel xQ
    unfold e9.round e9.step at ae
    split at ae
    case h_2 => cases ae
    rename_i s1 gn
    split at gn
    case h_2 => cases gn
    rename_i jc wr hex
    cases gn
    split at ae
    case h_2 => cases ae
    rename_i ux
    split at ae
    case isFalse => cases ae
    rename_i L2
    have L3 : bJ jc.aw it = .ptr st.H.length 0 := by
     have := tV _ _ L2
     rw [CC] at this
     exact this.trans (rm d s aZ)
    split at ae
    case h_2 => cases ae
    rename_i s2 L4 CK
    have xM : (execOp al.eval on).run C.P aC = .ok (.value (.tuple #[.bool true, e.key, e.val])) bB := by
     unfold execOp
     rw [pn]
     simp only [CD, Sem.run_bind, cf, Result.andThen_ok, Sem.run_pure]
    have ub : dx C fid vars N ax (({ s with aE := [], low := s.H.length } : au).put (some R.aF) (.ba [.bool true, kv.1, kv.2])) (al.put (some aF) (.tuple #[.bool true, e.key, e.val])) bB := by
     rw [rl]
     exact CG.reset.put mQ (.ba _ _ (.cons _ _ _ _ (.p _ _ (.bool true)) (.cons _ _ _ _ CI (.cons _ _ _ _ CJ .nil))))
    have fG := jL ({ s with aE := [], low := s.H.length } : au) (some R.aF) (.ba [.bool true, kv.1, kv.2])
    have dX := nI bj.bN _ _ _ _ _ (by rw [fG.1, fG.2.1]; exact aK _) hex
    have lA := jL ({ jc with aE := [] } : au) (some R.pair) (.ba [kv.1, kv.2])
    have qn : jc.low <= jc.H.length := dX.bound (by rw [fG.1, fG.2.1]; exact aK _)
    have uz := nI bj.bN _ _ _ _ _ (by rw [lA.1, lA.2.1]; exact qn) CK
    have xy : s2.low <= s2.H.length := uz.bound (by rw [lA.1, lA.2.1]; exact qn)
    obtain ⟨dd, eV, Gn, ac7, ac8⟩ : ∃ dd eV, exec call n R.body { s2 with aE := [] } = some (dd, eV) /\ (dd = .normal \/ dd = .exit ep) /\ eV = ar := by
     split at ae
     · rename_i eV xG; cases ae; exact ⟨_, _, xG, .inl rfl, rfl⟩
     · rename_i id eV xG
       split at ae
       · rename_i ac9; cases ae; exact ⟨_, _, xG, .inr (by rw [ac9, LO]), rfl⟩
       · cases ae
     · cases ae
    subst ac8
    have rn := lq bj.bN n _ _ _ _ (show ({ s2 with aE := [] } : au).low <= ({ s2 with aE := [] } : au).H.length from xy) Gn
    have ada : eV.low <= s2.low := rn.1.low
    have adb : s2.low <= jc.low := by have := uz.1.low; rw [lA.2.1] at this; exact this
    refine wpIn_seq (Af bx bj h1 gr rj uv pd xM ub hex fun bq a2 fr gq iB rh => ?_)
    have eC : sC C fid vars N base st.H.length l w.heap.size eU.b bE es bk st G w (d ++ [i]) { jc with aE := [] } bq a2 fr := by
     refine CH.on iZ (aK _) gq.clear (fun m hm => ?_) (by show st.H.length < jc.low; omega) ?_ ?_ ?_
     · have := iB m hm
       rw [fG.1] at this; exact this
     · have := dX.1
       rw [fG.1, fG.2.1] at this; exact this
     · exact dX.2.trans fG.2.2
     · have := CH.marks.ext (iB 0 (cx _))
       rw [rh]; exact this
    have af := rf bx eC.rel (.tmp more) R.more pq
    rw [ux] at af
    refine wpIn_seq (wpIn_cond_true af.j1 (wpIn_skip ?_))
    show (Code.block ep (.seq (.region i2 jb false) body)).wpIn (ek ro) 0 C.P _ a2 fr
    refine wpIn_block (wpIn_seq ?_)
    have L5 : a2.eval (.tmp it) = .pointer (some ⟨w.heap.size, 0, none⟩) := by
     have := eC.rel.env it
     rw [show dD vars { jc with aE := [] } it = bJ jc.aw it by unfold dD; rw [if_pos po], L3] at this
     obtain ⟨h5, ej, -, eM⟩ := this.nB
     obtain ⟨gu, jH, hC⟩ := eC.hi
     rw [jH] at ej; cases ej
     rw [hC] at eM; exact eM
    have L6 : (execOp a2.eval ja).run C.P fr = .ok (.value (.tuple #[e.key, e.val])) fr := by
     have SA := eC.iter
     rw [LN es d hi] at SA
     have Cs := Sw (P := C.P) SA eC.map (by rw [<- iK] at hi; exact fm hi) cp.2
     unfold execOp
     rw [rk]
     simp only [L5, Sem.run_bind, Cs, Result.andThen_ok, Sem.run_pure]
    have CL := iB 0 (cx _)
    have L7 : dx C fid vars N bq (({ jc with aE := [] } : au).put (some R.pair) (.ba [kv.1, kv.2])) (a2.put (some pair) (.tuple #[e.key, e.val])) fr := by
     rw [uq]
     exact eC.rel.put uo (.ba _ _ (.cons _ _ _ _ (CI.ext xO CL) (.cons _ _ _ _ (CJ.ext xO CL) .nil)))
    refine Af bx bj U uk um zT nA L6 L7 CK fun iW a3 Ag xH ud Cv => ?_
    have pr : sC C fid vars N base st.H.length l w.heap.size eU.b bE es bk st G w (d ++ [i]) { s2 with aE := [] } iW a3 Ag := by
     refine eC.on iZ (aK _) xH.clear (fun m hm => ?_) (by show st.H.length < s2.low; omega) ?_ ?_ ?_
     · have := ud m hm
       rw [lA.1] at this; exact this
     · have := uz.1
       rw [lA.1, lA.2.1] at this
       exact ⟨this.len, c4 this.low qn, this.same⟩
     · exact uz.2.trans lA.2.2
     · have := eC.marks.ext (ud 0 (cx _))
       rw [Cv]; exact this
    show body.wpIn (ek ro) 0 C.P _ a3 Ag
    refine qo (n := n) cC bx bj body _ _ _ vS _ _ _ Gn iW a3 Ag ro base _ pr.rel ?_ pr.marks (c4 hb (pr.ext 0 (cx _)).size) fun CM a4 Gp F => ?_
    · have lv : ({ s2 with aE := [] } : au).ro = st.ro := pr.bN.2
      rw [lv]
      exact eB.ext (pr.ext 0 (cx _))
    have vT : sC C fid vars N base st.H.length l w.heap.size eU.b bE es bk st G w (d ++ [i]) eV CM a4 Gp :=
     pr.on iZ (aK _) F.rel F.ext ix ⟨rn.1.len, c4 rn.1.low xy, rn.1.same⟩ rn.2 F.marks
    have vK : ∃ d s ax, Inv d s /\ d.Nodup /\ (∀ i ∈ d, i < bk.length) /\ (leftOf es (ly es d)).size < bs /\ sC C fid vars N base st.H.length l w.heap.size eU.b bE es bk st G w d s ax a4 Gp := by
     refine ⟨d ++ [i], eV, CM, xN, Fe.2 ⟨Sz, by simp, fun x hx y hy => ?_⟩, fun x hx => ?_, by omega, vT⟩
     · simp only [dS, w0, or_false] at hy
       subst hy
       exact fun q => hid (q ▸ hx)
     · rcases jV.1 hx with q | q
       · exact kK x q
       · simp only [dS, w0, or_false] at q
         subst q; omega
    rcases ac7 with rfl | rfl
    · exact vK
    · show (if ep = ep then _ else _)
      rw [if_pos rfl]
      exact vK
 · have iz : (hD it st).H.length = st.H.length + 1 := by unfold hD; simp
   have ah := ch (st.H.length + 1) (by show st.H.length + 1 <= (hD it st).H.length; rw [iz]; exact aK _)
   have ez := qp 0 st.H.length (aK _)
   have pa : (⟨cg G.β st.H.length ⟨w.heap.size, 0, 0, false⟩, G.I⟩ : bT).β l = some eU := by
    show cg G.β st.H.length ⟨w.heap.size, 0, 0, false⟩ l = some eU
    rw [dp (by omega)]; exact uu
   have xi : (⟨cg G.β st.H.length ⟨w.heap.size, 0, 0, false⟩, G.I⟩ : bT).β st.H.length = some ⟨w.heap.size, 0, 0, false⟩ := de _ _ _
   refine ⟨[], hD it st, G', ur, Fk, fun i hi => (by cases hi), wZ _, ⟨⟨bG.rel, bG.env, bG.size, ?_⟩, ⟨⟨?_, jA _ _, fun x hx => ?_⟩, rfl⟩, ?_, fun m hm => ?_, ?_, ?_, ?_, ?_, ?_, ?_, ?_⟩⟩
   · exact ov.low
   · show st.H.length <= (hD it st).H.length
     omega
   · have ed : x < min st.low st.H.length := hx
     show (st.H ++ [cE.gone])[x]? = _
     rw [hq (by omega)]
   · omega
   · exact (qp m st.H.length (aK _)).trans ((ch m (by show m <= (hD it st).H.length; omega)).le (aK _) (by show st.H.length <= (hD it st).H.length; omega))
   · rw [eL]
     exact (ev.ext ez).ext ah
   · exact vR ah xi rfl
   · exact vR ah pa LQ
   · show (st.H ++ [cE.gone])[st.H.length]? = _
     simp
   · show (st.H ++ [cE.gone])[l]? = _
     rw [hq iZ]; exact mZ
   · have := vQ ah ov.rel xi (wZ _)
     rw [this]; exact oe _ _
   · have := vQ ah ov.rel pa (by omega)
     rw [this, alloc_old (aa.rel.blk _ _ uu)]; exact fL
theorem ade (cC : C.P.follows .mixedOrders = true) (bx : eR C fid) (bj : gx C fid call) {i0 i1 i2 : Nat} {gK on ja : Oper} {jO jP jb : Array Oper} {oC mX mY : List Oper}
  {mt it aF more pair out ep : Nat} {tm qq qs : TypeId} {body : Code} {R : e9}
  (h0 : jO.toList = oC ++ [gK]) (ou : dH (C.oper vars N jO) oC = some R.t0) (ug : C.bV vars (.tmp mt) = some R.src) (ri : gK.op = .range tm (.tmp mt)) (uh : gK.dst = some it) (ui : gK.guard = none) (hit : it < N) (uj : C.P.underlying tm = some (.map qq qs))
  (h1 : jP.toList = on :: mX) (pn : on.op = .next (.tmp it) false) (gr : on.dst = some aF) (rj : on.guard = none) (mQ : aF < N)
  (U : jb.toList = ja :: mY) (rk : ja.op = .entry (.tmp it)) (uk : ja.dst = some pair) (um : ja.guard = none) (uo : pair < N)
  (po : vars.contains it = true) (rl : R.aF = (aF, vars.contains aF)) (uq : R.pair = (pair, vars.contains pair))
  (pd : dH (C.oper vars N jP) mX = some R.t1) (nA : dH (C.oper vars N jb) mY = some R.t2) (pq : C.bV vars (.tmp more) = some R.more) (vS : C.code vars N body = some R.body) (LO : R.ep = ep) (CC : R.it = it)
  {iC st : au} {wr : List Bool} (he : c9 call R.t0 { iC with aE := [] } [] = some (st, wr)) {l : Nat} {bk : List (V × V)} (qt : R.src.ag st.aE st.aw = .map l) (mZ : st.H[l]? = some (.map bk)) (Inv : List Nat -> au -> Prop) (Out : au -> Prop)
  (ur : Inv [] (hD it st)) (rm : ∀ d s, Inv d s -> bJ s.aw it = .ptr st.H.length 0)
  (oB : ∀ d s, Inv d s -> ∀ i kv, i ∉ d -> bk[i]? = some kv -> ∃ ar, R.round call n kv.1 kv.2 s = some ar /\ st.H.length < ar.low /\ Inv (d ++ [i]) ar)
  (h9 : ∀ d s, Inv d s -> d.Nodup -> (∀ i, i ∈ d ↔ i < bk.length) -> ∃ ar, R.fin call s = some ar /\ st.H.length < ar.low /\ Out ar)
  {a : Act} {ro : Option Nat} {base : Nat} {Q : Exit -> Act -> World -> Prop} (aa : dx C fid vars N G iC a w) (eB : ua G iC.ro ro) (ev : j7 C G w base a.defers) (hb : base <= w.heap.size)
  (dy : ∀ ar G' bf w', Out ar -> fU iC { ar with low := min st.low st.H.length } -> Fin C fid vars N base iC G w { ar with low := min st.low st.H.length } G' bf w' -> Q .normal bf w') :
  (Code.seq (.region i0 jO false) (.block out (.loop (.seq (.region i1 jP false) (.seq (.cond (.tmp more) .skip (.exit out)) (.block ep (.seq (.region i2 jb false) body))))))).wpIn (ek ro) 0 C.P Q a w := by
 have dX := nI bj.bN _ _ _ _ _ (show ({ iC with aE := [] } : au).low <= ({ iC with aE := [] } : au).H.length from aa.low) he
 have xR : fU iC st := dX
 have dP : jO.size = oC.length + 1 := by rw [<- gW, h0]; simp
 refine wpIn_seq (wpIn_region ?_)
 rw [dP, Fa]
 refine LM bx bj (k0 := 0) (fun j hj => by rw [eF, <- iK, h0, hq hj]) ou aa.clear he fun ax al aC bG ch eL => ?_
 have ez := ch 0 (cx _)
 have ai : jO[0 + oC.length]? = some gK := by rw [eF, <- iK, h0]; simp
 have CN : j7 C ax aC base al.defers := by rw [eL]; exact ev.ext ez
 rw [th, wpOpsIn_cons]
 exact (ac4 (n := n) cC bx bj ai ug ri uh ui hit uj h1 pn gr rj mQ U rk uk um uo po rl uq pd nA pq vS LO CC qt mZ Inv Out ur rm oB h9 bG (by rw [xR.2]; exact eB.ext ez) CN (c4 hb ez.size)
  fun ar G' bf w' ho ae F => dy ar G' bf w' ho (xR.trans ae) ((Fin.trans (st := iC) (bW := st) ⟨bG, ch, CN⟩ F xR ae)))
end
end Go.Abs
namespace Go.Abs
open Go
variable {C : Ctx} {fid : Nat -> Nat} {w w' : World} {G G' : bT} {H H' : Heap}
section
variable {vars : List Nat} {N : Nat} {call : c3} {n : Nat}
def c1 (C : Ctx) (fid : Nat -> Nat) (vars : List Nat) (N : Nat) (c : Code) (st : au) (Out : X -> au -> Prop) : Prop :=
 ∀ (G : bT) (a : Act) (w : World) (ro : Option Nat) (base : Nat) (Q : Exit -> Act -> World -> Prop), dx C fid vars N G st a w -> ua G st.ro ro -> j7 C G w base a.defers -> base <= w.heap.size ->
   (∀ x aU G' bf w', Out x aU -> fU st aU -> Fin C fid vars N base st G w aU G' bf w' -> Q (z1 x) bf w') -> c.wpIn (ek ro) 0 C.P Q a w
theorem c1.exec (cC : C.P.follows .mixedOrders = true) (bx : eR C fid) (bj : gx C fid call) {c : Code} {ac : cm} (hc : C.code vars N c = some ac) {st aU : au} {x : X} (he : Abs.exec call n ac st = some (x, aU)) :
  c1 C fid vars N c st (fun y s => y = x /\ s = aU) := fun G a w ro base Q aa eB ev hb dy =>
 qo (n := n) cC bx bj c _ _ _ hc _ _ _ he G a w ro base Q aa eB ev hb fun G' bf w' F => dy x aU G' bf w' ⟨rfl, rfl⟩ (lq bj.bN n _ _ _ _ aa.low he) F
theorem c1.mono {c : Code} {st : au} {Out SB : X -> au -> Prop} (h : c1 C fid vars N c st Out) (hm : ∀ x s, Out x s -> SB x s) : c1 C fid vars N c st SB := fun G a w ro base Q aa eB ev hb dy =>
 h G a w ro base Q aa eB ev hb fun x s G' bf w' ho => dy x s G' bf w' (hm x s ho)
theorem c1.seq {c d : Code} {st : au} {Gq Out : X -> au -> Prop} (h1 : c1 C fid vars N c st Gq) (U : ∀ s, Gq .normal s -> c1 C fid vars N d s Out) (av : ∀ x s, x ≠ .normal -> Gq x s -> Out x s) :
  c1 C fid vars N (.seq c d) st Out := fun G a w ro base Q aa eB ev hb dy => by
 refine wpIn_seq (h1 G a w ro base _ aa eB ev hb fun x s ax al aC ho ae F => ?_)
 cases x with
 | normal =>
   refine U s ho ax al aC ro base _ F.rel (by rw [ae.2]; exact eB.ext (F.ext 0 (cx _))) F.marks (c4 hb (F.ext 0 (cx _)).size) fun cq s2 bq a2 bB adf xS sA => ?_
   exact dy cq s2 bq a2 bB adf (ae.trans xS) (F.trans sA ae xS)
 | exit id => exact dy (.exit id) s ax al aC (av _ _ (by simp) ho) ae F
 | ret => exact dy .ret s ax al aC (av _ _ (by simp) ho) ae F
structure L8 (C : Ctx) (vars : List Nat) (N : Nat) (c : Code) (R : e9) : Prop where
 ok : ∃ (i0 i1 i2 : Nat) (gK on ja : Oper) (jO jP jb : Array Oper) (oC mX mY : List Oper) (mt aF more pair out : Nat) (tm qq qs : TypeId) (body : Code),
  c = .seq (.region i0 jO false) (.block out (.loop (.seq (.region i1 jP false) (.seq (.cond (.tmp more) .skip (.exit out)) (.block R.ep (.seq (.region i2 jb false) body)))))) /\
  jO.toList = oC ++ [gK] /\ dH (C.oper vars N jO) oC = some R.t0 /\ C.bV vars (.tmp mt) = some R.src /\ gK.op = .range tm (.tmp mt) /\ gK.dst = some R.it /\ gK.guard = none /\ R.it < N /\ C.P.underlying tm = some (.map qq qs) /\
  jP.toList = on :: mX /\ on.op = .next (.tmp R.it) false /\ on.dst = some aF /\ on.guard = none /\ aF < N /\
  jb.toList = ja :: mY /\ ja.op = .entry (.tmp R.it) /\ ja.dst = some pair /\ ja.guard = none /\ pair < N /\
  vars.contains R.it = true /\ R.aF = (aF, vars.contains aF) /\ R.pair = (pair, vars.contains pair) /\
  dH (C.oper vars N jP) mX = some R.t1 /\ dH (C.oper vars N jb) mY = some R.t2 /\ C.bV vars (.tmp more) = some R.more /\ C.code vars N body = some R.body
theorem c1.range (cC : C.P.follows .mixedOrders = true) (bx : eR C fid) (bj : gx C fid call) {c : Code} {R : e9} (hc : L8 C vars N c R) {iC st : au} {wr : List Bool} (he : c9 call R.t0 { iC with aE := [] } [] = some (st, wr))
  {l : Nat} {bk : List (V × V)} (qt : R.src.ag st.aE st.aw = .map l) (mZ : st.H[l]? = some (.map bk)) (Inv : List Nat -> au -> Prop) (Out : au -> Prop)
  (ur : Inv [] (hD R.it st)) (rm : ∀ d s, Inv d s -> bJ s.aw R.it = .ptr st.H.length 0)
  (oB : ∀ d s, Inv d s -> ∀ i kv, i ∉ d -> bk[i]? = some kv -> ∃ ar, R.round call n kv.1 kv.2 s = some ar /\ st.H.length < ar.low /\ Inv (d ++ [i]) ar)
  (h9 : ∀ d s, Inv d s -> d.Nodup -> (∀ i, i ∈ d ↔ i < bk.length) -> ∃ ar, R.fin call s = some ar /\ st.H.length < ar.low /\ Out ar) :
  c1 C fid vars N c iC (fun x s => x = .normal /\ ∃ ar, Out ar /\ s = { ar with low := min st.low st.H.length }) := fun G a w ro base Q aa eB ev hb dy => by
 obtain ⟨i0, i1, i2, gK, on, ja, jO, jP, jb, oC, mX, mY, mt, aF, more, pair, out, tm, qq, qs, body, rfl, h0, ou, ug, ri, uh, ui, hit, uj, h1, pn, gr, rj, mQ, U, rk, uk, um, uo, po, rl, uq, pd, nA, pq, vS⟩ := hc.ok
 exact ade cC bx bj h0 ou ug ri uh ui hit uj h1 pn gr rj mQ U rk uk um uo po rl uq pd nA pq vS rfl rfl he qt mZ Inv Out ur rm oB h9 aa eB ev hb
  fun ar G' bf w' ho ae F => dy .normal _ G' bf w' ⟨rfl, ar, ho, rfl⟩ ae F
def xT {α : Type} : List α -> Option (List α × α)
 | [] => none
 | a :: l => match xT l with
   | none => some ([], a)
   | some (r, b) => some (a :: r, b)
theorem adg {α : Type} : ∀ {l : List α}, xT l = none -> l = []
 | [], _ => rfl
 | a :: l, h => by simp only [xT] at h; split at h <;> cases h
theorem L9 {α : Type} : ∀ {l r : List α} {b : α}, xT l = some (r, b) -> l = r ++ [b]
 | [], _, _, h => by cases h
 | a :: l, r, b, h => by
   simp only [xT] at h
   split at h
   · rename_i hn; cases h; rw [adg hn]; rfl
   · rename_i n6 eE hn; cases h; rw [L9 hn]; rfl
def xU (C : Ctx) (vars : List Nat) (N : Nat) : Code -> Option e9
 | .seq (.region _ jO false) (.block out (.loop (.seq (.region _ jP false) (.seq (.cond (.tmp more) .skip (.exit SC)) (.block ep (.seq (.region _ jb false) body)))))) =>
   match xT jO.toList, jP.toList, jb.toList with
   | some (oC, ⟨some it, .range tm (.tmp mt), _, _, _, none⟩), ⟨some aF, .next (.tmp SD) false, _, _, _, none⟩ :: mX, ⟨some pair, .entry (.tmp SE), _, _, _, none⟩ :: mY =>
     match C.P.underlying tm, dH (C.oper vars N jO) oC, C.bV vars (.tmp mt), dH (C.oper vars N jP) mX, dH (C.oper vars N jb) mY, C.bV vars (.tmp more), C.code vars N body with
     | some (.map _ _), some t0, some src, some t1, some t2, some ss, some b =>
       if SC = out /\ SD = it /\ SE = it /\ it < N /\ aF < N /\ pair < N /\ vars.contains it = true then some ⟨t0, src, it, (aF, vars.contains aF), t1, ss, ep, (pair, vars.contains pair), t2, b⟩ else none
     | _, _, _, _, _, _, _ => none
   | _, _, _ => none
 | _ => none
theorem SF {c : Code} {R : e9} (h : xU C vars N c = some R) : L8 C vars N c R := by
 unfold xU at h
 split at h
 · rename_i i0 jO out i1 jP more SC ep i2 jb body
   split at h
   · rename_i oC it tm mt aq3 aq4 aq5 aF SD aq6 Ly aq7 mX pair SE aq8 aq9 ara mY ez ah e2
     split at h
     · rename_i qq qs t0 src t1 t2 ss b kJ adh us o6 adi adj adk
       split at h
       · rename_i hc
         obtain ⟨rfl, rfl, rfl, h1, U, av, bc⟩ := hc
         cases h
         exact ⟨_, _, _, _, _, _, _, _, _, _, _, _, _, _, _, _, _, _, _, _, _, rfl, L9 ez, adh, us, rfl, rfl, rfl, h1, kJ, ah, rfl, rfl, rfl, U, e2, rfl, rfl, rfl, av, bc, rfl, rfl, o6, adi, adj, adk⟩
       · cases h
     · cases h
   · cases h
 · cases h
def CO (d : List Nat) (k : Nat) : List Nat := (List.range k).filter fun i => !d.contains i
def e9.all (R : e9) (call : c3) (n : Nat) (bk : List (V × V)) (li : Nat) : Nat -> List Nat -> au -> Option (List au)
 | 0, _, _ => none
 | f + 1, d, s =>
   if dN (bJ s.aw R.it) (.ptr li 0) = true then
    match CO d bk.length with
    | [] => match R.fin call s with
      | some ar => if Nat.blt li ar.low = true then some [ar] else none
      | none => none
    | i :: is => (dH (fun i => match bk[i]? with
        | some kv => match R.round call n kv.1 kv.2 s with
          | some ar => if Nat.blt li ar.low = true then R.all call n bk li f (d ++ [i]) ar else none
          | none => none
        | none => none) (i :: is)).map List.flatten
   else none
theorem SG {α β : Type} {f : α -> Option β} : ∀ {l : List α} {aL : List β}, dH f l = some aL -> ∀ {a : α}, a ∈ l -> ∃ b ∈ aL, f a = some b
 | [], _, _, _, h => by cases h
 | x :: l, aL, hm, a, h => by
   simp only [dH] at hm
   split at hm
   · rename_i b hb
     split at hm
     · rename_i arb B5
       cases hm
       rcases dS.1 h with rfl | h
       · exact ⟨b, by simp, hb⟩
       · obtain ⟨eE, h1, U⟩ := SG B5 h
         exact ⟨eE, by simp [h1], U⟩
     · cases hm
   · cases hm
theorem e9.Ma {R : e9} {bk : List (V × V)} {li f : Nat} {d : List Nat} {s : au} {o : List au} (h : R.all call n bk li f d s = some o) : bJ s.aw R.it = .ptr li 0 := by
 cases f with
 | zero => cases h
 | succ f =>
   simp only [e9.all] at h
   split at h
   · rename_i bD; exact tV _ _ bD
   · cases h
theorem c1.adl (cC : C.P.follows .mixedOrders = true) (bx : eR C fid) (bj : gx C fid call) {c : Code} {R : e9} (hc : L8 C vars N c R) {iC st : au} {wr : List Bool} (he : c9 call R.t0 { iC with aE := [] } [] = some (st, wr)) {l : Nat} {bk : List (V × V)}
  (qt : R.src.ag st.aE st.aw = .map l) (mZ : st.H[l]? = some (.map bk)) {f : Nat} {outs : List au} (ao : R.all call n bk st.H.length f [] (hD R.it st) = some outs) :
  c1 C fid vars N c iC (fun x s => x = .normal /\ ∃ ar ∈ outs, s = { ar with low := min st.low st.H.length }) := by
 refine c1.range (n := n) cC bx bj hc he qt mZ (fun d s => ∃ f o, R.all call n bk st.H.length f d s = some o /\ ∀ x ∈ o, x ∈ outs) (fun s => s ∈ outs) ⟨f, outs, ao, fun _ h => h⟩ (fun d s ⟨f, o, h, _⟩ => e9.Ma h) ?_ ?_
 · rintro d s ⟨f, o, h, hs⟩ i kv hid kP
   have hit := e9.Ma h
   have qu : i < bk.length := by
    rcases gg i bk.length with q | q
    · exact q
    · rw [mF q] at kP; cases kP
   have dn : i ∈ CO d bk.length := by
    unfold CO
    simp [qu, hid]
   cases f with
   | zero => cases h
   | succ f =>
     simp only [e9.all, hit] at h
     split at h
     · split at h
       · rename_i hr; rw [hr] at dn; cases dn
       · rename_i j is hr
         rw [hr] at dn
         obtain ⟨os, zD, rfl⟩ := cD.1 h
         obtain ⟨b, hb, xV⟩ := SG zD dn
         rw [kP] at xV
         simp only at xV
         split at xV
         · rename_i ar fT
           split at xV
           · rename_i ix
             refine ⟨ar, fT, ?_, f, b, xV, fun x hx => hs x (List.mem_flatten.2 ⟨b, hb, hx⟩)⟩
             have := k3 ix
             omega
           · cases xV
         · cases xV
     · cases h
 · rintro d s ⟨f, o, h, hs⟩ _ eo
   have hit := e9.Ma h
   cases f with
   | zero => cases h
   | succ f =>
     have hr : CO d bk.length = [] := by
      unfold CO
      rw [List.filter_eq_nil_iff]
      intro i hi
      have := (eo i).2 (JS.1 hi)
      simp [this]
     simp only [e9.all, hr] at h
     split at h
     case isFalse => cases h
     cases ae : R.fin call s with
     | none => rw [ae] at h; cases h
     | some ar =>
       rw [ae] at h
       simp only at h
       split at h
       · rename_i ix
         cases h
         refine ⟨ar, rfl, ?_, hs _ (by simp)⟩
         have := k3 ix
         omega
       · cases h
end
theorem SH (bx : eR C fid) {mW : Nat} {fn : Func} {c : Code} {oA : List lN} {fresh : Bool} (ae : C.P.funcs[mW]? = some fn) (hb : fn.body = some c) (sy : dH C.res fn.results.toList = some oA)
  {args : List V} {v : V} {low' : Nat} {xs : List Value} (hlen : args.length <= fn.ntmps)
  (Mb : c1 C fid (Ctx.varsOf fn) fn.ntmps c { aE := [], aw := iP 0 args, H, low := H.length } (fun x st => (x = .normal \/ x = .ret) /\ ∃ vs, hZ st.aw st.H oA = some vs /\ finish fresh H (iY vs) st.H st.low = some (v, H', low')))
  (aa : bb C fid G H w) (af : a6 fid G w args xs) : Calls C.P mW ⟨xs⟩ w (fun e w' => ∃ x, e = .returned x /\ kM C fid G H w v H' low' x w') := by
 have h4 := af.length
 have iA : dx C fid (Ctx.varsOf fn) fn.ntmps G { aE := [], aw := iP 0 args, H, low := H.length } { tmps := (⟨xs⟩ : Array Value) ++ Array.replicate (fn.ntmps - (⟨xs⟩ : Array Value).size) undef, defers := [] } w := by
  refine ⟨aa, fun t => ?_, ?_, aK _⟩
  · unfold dD
    split
    · rw [LJ]
      simp only [cx, if_true, Nat.sub_zero]
      cases ao : args[t]? with
      | none => exact .undef _
      | some u =>
        obtain ⟨x, hx, xJ⟩ := af.get ao
        have aH : t < xs.length := by
         rcases gg t xs.length with h | h
         · exact h
         · simp [mF h] at hx
        have : ((⟨xs⟩ : Array Value) ++ Array.replicate (fn.ntmps - (⟨xs⟩ : Array Value).size) undef).getD t undef = x := by
         rw [ve, Array.getElem?_append_left (by simpa using aH)]
         simp [hx]
        rw [this]; exact xJ
    · exact .undef _
  · simp only [Bx, Array.size_replicate]
    show xs.length + (fn.ntmps - xs.length) = fn.ntmps
    rw [h4]; omega
 refine (callsIn_wide (n := 0)).1 (callsIn_of_wp_marks ae hb trivial ?_)
 refine Mb G _ w none w.heap.size _ iA trivial (.nil _ _ _) (aK _) fun x st G' bf w' ho eT F => ?_
 obtain ⟨LL, vs, hr, q9⟩ := ho
 obtain ⟨rs, LK, dE, hm, Cw⟩ := F.marks
 have mU : LeavesInM Fence.wide 0 C.P fn bf.tmps (fun e w' => ∃ x, e = .returned x /\ kM C fid G H w v H' low' x w') bf.defers .returning w' := by
  rw [LK]
  refine Gg (m0 := fun m => m <= st.low) rs w' dE hm Cw F.rel.rel F.ext (fun _ _ _ => trivial) fun bB cn dZ lx => ?_
  obtain ⟨x, hx, xJ⟩ := So sy cn (fun t ht => by
   have := F.rel.env t
   rw [Lv (Sq ht)] at this
   exact lx this) hr
  exact ⟨x, hx, x, rfl, Sk aa cn dZ eT.1 xJ q9⟩
 rcases LL with rfl | rfl
 · exact mU
 · exact mU
end Go.Abs
namespace Go.Abs
open Go
variable {C : Ctx} {fid : Nat -> Nat} {w w' : World} {G G' : bT} {H H' : Heap}
section
variable {vars : List Nat} {N : Nat} {call : c3} {n : Nat}
theorem c1.pre (cC : C.P.follows .mixedOrders = true) (bx : eR C fid) (bj : gx C fid call) {c d : Code} {ac : cm} (hc : C.code vars N c = some ac) {st aU : au} (he : Abs.exec call n ac st = some (.normal, aU))
  {Out : X -> au -> Prop} (h : c1 C fid vars N d aU Out) : c1 C fid vars N (.seq c d) st Out :=
 c1.seq (c1.exec cC bx bj hc he) (fun s hs => by rw [hs.2]; exact h) fun x s hx hs => absurd hs.1 hx
def Mc : List Code -> Code -> Code
 | [], d => d
 | c :: r, d => .seq c (Mc r d)
def CP (call : c3) (n : Nat) : List cm -> au -> Option au
 | [], st => some st
 | c :: r, st => match Abs.exec call n c st with
   | some (.normal, s) => CP call n r s
   | _ => none
theorem c1.SI (cC : C.P.follows .mixedOrders = true) (bx : eR C fid) (bj : gx C fid call) {d : Code} {Out : X -> au -> Prop} : ∀ {cs : List Code} {Gr : List cm}, dH (C.code vars N) cs = some Gr -> ∀ {st aU : au}, CP call n Gr st = some aU ->
  c1 C fid vars N d aU Out -> c1 C fid vars N (Mc cs d) st Out
 | [], Gr, hm, st, aU, he, h => by
   simp only [dH, aA] at hm
   subst hm
   simp only [CP, aA] at he
   subst he
   exact h
 | c :: cs, Gr, hm, st, aU, he, h => by
   simp only [dH] at hm
   split at hm
   · rename_i a ao
     split at hm
     · rename_i aY has
       cases hm
       simp only [CP] at he
       split at he
       · rename_i s hs
         exact c1.pre cC bx bj ao hs (c1.SI cC bx bj has he h)
       · cases he
     · cases hm
   · cases hm
end
structure lY where
 pre : List cm
 R : e9
 post : cm
 oA : List lN
def adm : X -> Bool
 | .normal | .ret => true
 | _ => false
def lY.ends (B : lY) (v : V) : X × au -> Bool := fun (x, s) => adm x && match hZ s.aw s.H B.oA with
 | some vs => match finish false [] (iY vs) s.H s.low with
   | some (u, H', l) => dN u v && H'.isEmpty && Nat.beq l 0
   | none => false
 | none => false
def lY.ok (B : lY) (call : c3) (n : Nat) (args : List V) (v : V) : Bool :=
 match CP call n B.pre { aE := [], aw := iP 0 args, H := [], low := 0 } with
 | some iC => match c9 call B.R.t0 { iC with aE := [] } [] with
  | some (st, _) => match B.R.src.ag st.aE st.aw with
   | .map l => match st.H[l]? with
     | some (.map bk) => match B.R.all call n bk st.H.length n [] (hD B.R.it st) with
       | some outs => outs.all fun ar => match exec call n B.post { ar with low := min st.low st.H.length } with
         | some p => B.ends v p
         | none => false
       | none => false
     | _ => false
   | _ => false
  | none => false
 | none => false
structure Gs (C : Ctx) (fn : Func) (B : lY) : Prop where
 ok : ∃ (cs : List Code) (Gt Gu : Code), fn.body = some (Mc cs (.seq Gt Gu)) /\ dH (C.code (Ctx.varsOf fn) fn.ntmps) cs = some B.pre /\ xU C (Ctx.varsOf fn) fn.ntmps Gt = some B.R /\ C.code (Ctx.varsOf fn) fn.ntmps Gu = some B.post /\
  dH C.res fn.results.toList = some B.oA /\ (fn.name == "runtime.NumGoroutine") = false
theorem lY.calls (cC : C.P.follows .mixedOrders = true) (bx : eR C fid) {call : c3} (bj : gx C fid call) {n mW : Nat} {fn : Func} {B : lY} (ae : C.P.funcs[mW]? = some fn) (dC : Gs C fn B) {args : List V} {v : V} (hlen : args.length <= fn.ntmps)
  (bd : B.ok call n args v = true) {xs : List Value} (aa : bb C fid G [] w) (af : a6 fid G w args xs) : Calls C.P mW ⟨xs⟩ w (fun e w' => ∃ x, e = .returned x /\ kM C fid G [] w v [] 0 x w') := by
 obtain ⟨cs, Gt, Gu, hb, Gv, adn, ado, sy, -⟩ := dC.ok
 refine SH bx ae hb sy (fresh := false) hlen ?_ aa af
 unfold lY.ok at bd
 split at bd
 case h_2 => cases bd
 rename_i iC cp
 split at bd
 case h_2 => cases bd
 rename_i st wr hex
 split at bd
 case h_2 => cases bd
 rename_i l hl
 split at bd
 case h_2 => cases bd
 rename_i bk adp
 split at bd
 case h_2 => cases bd
 rename_i outs adq
 refine c1.SI cC bx bj Gv cp ?_
 refine c1.seq (c1.adl cC bx bj (SF adn) hex hl adp adq) (fun s hs => ?_) fun x s hx hs => absurd hs.1 hx
 obtain ⟨-, ar, Gw, rfl⟩ := hs
 have h1 := fo.1 bd ar Gw
 split at h1
 case h_2 => cases h1
 rename_i p hp
 obtain ⟨x, s2⟩ := p
 refine (c1.exec cC bx bj ado hp).mono fun y eV hy => ?_
 obtain ⟨rfl, rfl⟩ := hy
 unfold lY.ends at h1
 simp only [cd] at h1
 obtain ⟨U, av⟩ := h1
 refine ⟨?_, ?_⟩
 · cases y with
   | normal => exact .inl rfl
   | ret => exact .inr rfl
   | exit i => cases U
 · split at av
   case h_2 => cases av
   rename_i vs cO
   split at av
   case h_2 => cases av
   rename_i u H' k h9
   simp only [cd] at av
   obtain ⟨⟨bc, h5⟩, gu⟩ := av
   have ah := tV _ _ bc
   have e2 : H' = [] := by cases H' with
    | nil => rfl
    | cons => cases h5
   have b5 : k = 0 := fl gu
   subst ah; subst e2; subst b5
   exact ⟨vs, cO, h9⟩
def lY.iS (B : lY) (call : c3) (n : Nat) (N : Nat) : List (List V × V) -> Prop
 | [] => True
 | (aY, v) :: r => (bO v = true /\ Nat.ble aY.length N = true /\ B.ok call n aY v = true) /\ B.iS call n N r
theorem lY.Gj (cC : C.P.follows .mixedOrders = true) (bx : eR C fid) {call : c3} (bj : gx C fid call) {n mW : Nat} {fn : Func} {B : lY} (ae : C.P.funcs[mW]? = some fn) (dC : Gs C fn B) : ∀ {l : List (List V × V)}, B.iS call n fn.ntmps l -> nL C fid mW (iR l) := by
 intro l hl G H w args v xs aa eJ lX
 obtain ⟨cs, Gt, Gu, hb, -, -, -, -, Cz⟩ := dC.ok
 rw [Cx ae hb Cz]
 induction l with
 | nil => cases lX
 | cons p r ih =>
   obtain ⟨aY, u⟩ := p
   simp only [iR] at lX
   cases e : mc args aY with
   | true =>
     rw [e] at lX
     have h' : some u = some v := lX
     cases h'
     have e' := sw _ _ e
     subst e'
     obtain ⟨⟨h1, U, av⟩, -⟩ := hl
     have hc := lY.calls cC bx bj ae dC (k3 U) av aa.apart (c6.od eJ)
     exact BF hc fun e w' => fun ⟨x, ah, e2⟩ => ⟨x, ah, e2.beside aa h1⟩
   | false => rw [e] at lX; exact ih hl.2 lX
end Go.Abs
namespace Go.Abs.b1
open Go Go.Abs Go.Proofs
noncomputable section
def C (g : Nat -> Option Obj) : Ctx := { P := Tryz.prog, Fq := some, raw := fun i => i == 10 || i == 11 || i == 13 || i == 14 || i == 15 || i == 117 || i == 234 || i == 275 || i == 310 || i == 388 || i == 437 || i == 438 || i == 439 || i == 440 || i == 441 || i == 442 || i == 443 || i == 444 || i == 484 || i == 485 || i == 486 || i == 501, e6 := g, mG := fun p => !(p == "names.go:37" || p == "parser.go:280"), zy := [481] }
def adr (i : Nat) : Bool := i == 10 || i == 11 || i == 13 || i == 14 || i == 15 || i == 117 || i == 234
def SJ (i : Nat) : Option (List V -> Option V) := match i with
 | 47 => some Kb
 | 48 => some Ka
 | 162 => some J9
 | 236 => some Kc
 | 244 => some Fz
 | 247 => some FA
 | 360 => some Kd
 | _ => none
def fW (g : Nat -> Option Obj) : Nat -> Option ca := fun i => match SJ i with
 | some s => some (.ext s)
 | none => match Tryz.prog.funcs[i]? with
   | some f => match (C g).func f (adr i) with
     | some a => some (.code a)
     | none => none
   | none => none
end
end Go.Abs.b1
namespace Go.Abs.b1
open Go Go.Abs Go.Proofs
set_option maxRecDepth 100000
theorem ads (caps : Array Value) : FE Tryz.prog { target := .fn (.func 481) caps, args := #[] } := by
 refine ⟨_, caps, 481, caps, rfl, fun w => ⟨by simp [invoke, go_sem], ?_⟩⟩
 refine callsDIn_of_wpSIn Tryz.func481 rfl trivial fun arc cs hu => ?_
 have hn : Tryz.f481.ntmps = 18 := by kernel_rfl
 rw [hn]
 generalize hT : caps ++ Array.replicate (18 - caps.size) undef = T
 have hs : 18 <= T.size := by rw [<- hT, Bx, Array.size_replicate]; omega
 clear hT
 apply wpSIn_seq
 apply wpSIn_region
 simp [wpOpsSIn, go_sem, recoverD, hu, Exit.thenS]
 apply wpSIn_seq
 apply wpSIn_region
 have ard : ∀ (A : Array Value) (i : Nat), A.getD i undef = (A[i]?).getD undef := fun A i => ve ..
 have h1 : 1 < T.size := by omega
 have bc : 4 < T.size := by omega
 have h5 : 5 < T.size := by omega
 have gu : 6 < T.size := by omega
 simp [wpOpsSIn, go_sem, Exit.thenS, Act.eval, Act.put, Array.getElem?_setIfInBounds, h1, bc, h5, gu]
 refine wpSIn_cond (t := false) (by simp [Act.eval, Array.getElem?_setIfInBounds, h1, bc, h5, gu]) ?_
 simp only [gX, if_false]
 refine wpSIn_of_wpIn rfl (wpIn_skip ?_)
 have hr : Tryz.f481.results = #[] := by kernel_rfl
 have arf : Tryz.f481.resultTypes = #[] := by kernel_rfl
 simp_all [bodyPostS, results]
 rw [<- hu]
theorem sD {g : Nat -> Option Obj} : eR (C g) id := ⟨fun f i h => by cases h; rfl, fun i hi caps => by
 have sq : i ∈ [481] := hi
 simp only [dS, w0, or_false] at sq
 subst sq
 exact ads caps⟩
theorem mixed {g : Nat -> Option Obj} : (C g).P.follows .mixedOrders = true := by kernel_rfl
end Go.Abs.b1
