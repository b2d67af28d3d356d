/- Texts of this claim, joined and written short by a program. -/
import Derived.Test.YtjgngmpmjbkbpaaGreatDoorP16
import Derived.Test.YtjgngmpmjbkbpaaGreatDoorP25
import Derived.Test.YtjgngmpmjbkbpaaGreatDoorP00
set_option linter.unusedVariables false
set_option linter.unusedSimpArgs false
set_option linter.unusedSectionVars false
namespace Go.Abs
open Go
variable {C : Ctx} {fid : Nat -> Nat} {w w' : World} {G G' : bT} {H H' : Heap}
theorem ajw (cC : C.P.follows .mixedOrders = true) (bx : eR C fid) {ad : Nat -> Option ca} (hT : dU C fid ad) : gx C fid (cK ad) :=
 ⟨Vf ad, fun aa ae ao he => by
  obtain ⟨n, hn⟩ := tx.1 he
  exact (Cy cC bx hT n).run aa ae ao hn⟩
theorem W0 {k : TypeId} {bL : Nat} {d : TypeDesc} (ai : C.iQ k = some bL) (hd : C.P.underlying k = some d) {a : V} {x : Value} (ao : bg fid G w a x) : ∀ {bk : List (V × V)} {es : List MapEntry} (i : Nat) {r : V} {j : Nat} {z : Value},
  a6 fid G w (bk.map (·.1)) (es.map (·.key)) -> a6 fid G w (bk.map (·.2)) (es.map (·.val)) -> hv bL a bk = some (some r) -> Instr.findNow d x es i = some (some (i + j, z)) -> hY bL a bk = bk.eraseIdx j
 | [], [], i, r, j, z, _, _, h, _ => by simp [hv] at h
 | [], _ :: _, _, _, _, _, h, _, _, _ => by simp at h; cases h
 | _ :: _, [], _, _, _, _, h, _, _, _ => by simp at h; cases h
 | (bs, u') :: bk, e :: es, i, r, j, z, ee, cO, h, ae => by
   simp only [eD] at ee cO
   cases ee with
   | cons _ _ _ _ hL ee =>
     cases cO with
     | cons _ _ _ _ qj cO =>
       simp only [hv] at h
       split at h
       · rename_i he
         obtain ⟨hs, -⟩ := vD ai hd ao hL he
         simp only [Instr.findNow, hs, aA, bw] at ae
         obtain rfl : j = 0 := by omega
         simp only [hY, he, if_true, Y5]
       · rename_i he
         obtain ⟨hs, -⟩ := vD ai hd ao hL he
         simp only [Instr.findNow, hs] at ae
         have j4 := qk ai hd ao (i + 1) ee cO h
         obtain ⟨tT, y', h1, -, -⟩ := j4
         rw [h1] at ae
         simp only [aA, bw] at ae
         obtain ⟨hj, rfl⟩ := ae
         obtain rfl : j = tT + 1 := by omega
         have ih := W0 ai hd ao (i + 1) ee cO h h1
         have bA : ¬ (hX bL a bs = some true) := by rw [he]; simp
         simp only [hY, bA, if_false, Y6, ih]
       · cases h
theorem ajx {vars : List Nat} {ag : aj -> V} {ρ : Operand -> Value} {o : Oper} (aM : fh C fid vars G w ag ρ) {m k : Operand} {t eh q3 : TypeId} {u : TypeId} (hd : C.P.underlying t = some (.map eh q3)) {am gR : aj} {bL : Nat}
  (ho : o.op = .call { callee := .builtin .delete, args := #[m, k], argTypes := #[t, u] }) (h1 : C.bV vars m = some am) (h2 : C.bV vars k = some gR) (gh : C.iQ eh = some bL) {l : Nat} (ah : ag am = .map l) {h0 : Home} (du : G.β l = some h0) {bk : List (V × V)} {es : Array MapEntry} {bE : Nat}
  (dn : w.heap[h0.b]? = some (.map es bE)) (ee : a6 fid G w (bk.map (·.1)) (es.toList.map (·.key))) (cO : a6 fid G w (bk.map (·.2)) (es.toList.map (·.val))) (cp : nx es bE) {bN : Option V} (h7 : hv bL (ag gR) bk = some bN) :
  ∃ bC, (execOp ρ o).run C.P w = .ok (.value (.tuple #[])) { w with heap := w.heap.setIfInBounds h0.b (.map bC bE) } /\ a6 fid G w ((hY bL (ag gR) bk).map (·.1)) (bC.toList.map (·.key)) /\ a6 fid G w ((hY bL (ag gR) bk).map (·.2)) (bC.toList.map (·.val)) /\
    nx bC bE /\ ((bC = es /\ hY bL (ag gR) bk = bk) \/ ∃ j, bC = es.eraseIdxIfInBounds j /\ hY bL (ag gR) bk = bk.eraseIdx j) := by
 have hm := aM m am h1
 have ai := aM k gR h2
 obtain ⟨FU, iy⟩ := FT gh
 have cf : (execOp ρ o).run C.P w = ((Builtin.delete_ #[t, u] o.type #[ρ m, ρ k]).run C.P w).andThen fun z w' => .ok (.value z) w' := by
  rw [xl ho]
  simp only [builtin, Sem.run_bind, JP, eD, n5]
  rfl
 rw [ah] at hm
 obtain ⟨arP, W1, Rh, ef⟩ := hm.mapInv
 rw [du] at W1; cases W1
 cases bN with
 | none =>
   have ae := qk gh iy ai 0 ee cO h7
   refine ⟨es, ?_, by rw [zR h7]; exact ee, by rw [zR h7]; exact cO, cp, .inl ⟨rfl, zR h7⟩⟩
   rw [cf]
   unfold Builtin.delete_
   simp only [ef]
   simp [run_underlying hd, vE dn, sr gh, tS (C := C) iy ae, zP _ dn, Sem.run_pure, Result.andThen]
 | some r =>
   obtain ⟨j, y, ae, -, -⟩ := qk gh iy ai 0 ee cO h7
   obtain ⟨s1, s2⟩ := KX gh iy ai 0 ee cO h7 ae
   have eV := W0 gh iy ai 0 ee cO h7 ae
   rw [eF] at ae
   refine ⟨es.eraseIdxIfInBounds j, ?_, by simpa using s1, by simpa using s2, cp.erase _, .inr ⟨j, rfl, eV⟩⟩
   rw [cf]
   unfold Builtin.delete_
   simp only [ef]
   simp [run_underlying hd, vE dn, sr gh, tS (C := C) iy ae, zP _ dn, Sem.run_pure, Result.andThen]
theorem W2 {α β : Type} : ∀ {j : Nat} {l : List α} {m : List β} {p : α × β}, p ∈ (l.eraseIdx j).zip (m.eraseIdx j) -> p ∈ l.zip m
 | _, [], _, _, h => by simp at h
 | _, _ :: _, [], _, h => by simp at h
 | 0, _ :: _, _ :: _, _, h => by simp only [Y5] at h; exact k5 _ h
 | j + 1, _ :: _, _ :: _, _, h => by
   simp only [Y6, JL, dS] at h ⊢
   exact h.imp id W2
section
variable {vars : List Nat} {N : Nat}
structure pP (C : Ctx) (fid : Nat -> Nat) (vars : List Nat) (N base li l r jN bE : Nat) (st : au) (G : bT) (w : World) (seen : Array Nat) (es : Array MapEntry) (d : List V) (bk : List (V × V)) (s : au) (ax : bT) (al : Act) (aC : World) : Prop where
 rel : dx C fid vars N ax s al aC
 bN : fU st { s with low := min st.low l }
 len : li < s.H.length
 ext : ∀ m, m <= min st.low l -> Ext G w ax aC m st.H.length
 marks : j7 C ax aC base al.defers
 hi : ∃ h, ax.β li = some h /\ h.b = r
 hm : ∃ h, ax.β l = some h /\ h.b = jN
 gone : s.H[li]? = some .gone
 mp : s.H[l]? = some (.map bk)
 iter : aC.heap[r]? = some (.mapIter (some jN) bE seen bE)
 map : aC.heap[jN]? = some (.map es bE)
 hand : ∀ p ∈ es.toList.zip bk, p.1.born ∈ seen -> p.2.1 ∈ d
variable {base li l r jN bE : Nat} {st : au} {seen : Array Nat} {es : Array MapEntry} {d : List V} {bk : List (V × V)} {s ar : au} {ax bq : bT} {al a2 : Act} {aC bB : World}
theorem pP.on (h : pP C fid vars N base li l r jN bE st G w seen es d bk s ax al aC) (iZ : l < li) (aa : dx C fid vars N bq ar a2 bB) (dw : ∀ m, m <= ar.low -> Ext ax aC bq bB m s.H.length) (ix : li < ar.low) (dX : Fr s.H s.H.length ar.H ar.low) (eB : ar.ro = s.ro)
  (hd : j7 C bq bB base a2.defers) : pP C fid vars N base li l r jN bE st G w seen es d bk ar bq a2 bB := by
 obtain ⟨h1, ah, q1⟩ := h.hi
 obtain ⟨h2, e2, aS⟩ := h.hm
 have g1 := Gl h.rel.rel ah h.gone
 have g2 := xL h.rel.rel e2 h.mp
 have lz := dw _ (aK _)
 have lg := h.bN.1.len
 refine ⟨aa, ⟨⟨c4 h.bN.1.len dX.len, jA _ _, fun x hx => ?_⟩, eB.trans h.bN.2⟩, pY h.len dX.len, fun m hm => ?_, hd, ?_, ?_, ?_, ?_, ?_, ?_, h.hand⟩
 · have ed : x < min st.low l := hx
   exact (dX.same x (by omega)).trans (h.bN.1.same x hx)
 · exact (h.ext m hm).trans ((dw m (by omega)).le (aK _) lg)
 · obtain ⟨h', e', q'⟩ := vR lz ah g1.1; exact ⟨h', e', q'.trans q1⟩
 · obtain ⟨h', e', q'⟩ := vR lz e2 g2.1; exact ⟨h', e', q'.trans aS⟩
 · rw [dX.same li ix]; exact h.gone
 · rw [dX.same l (by omega)]; exact h.mp
 · have := vQ lz h.rel.rel ah ix
   rw [q1] at this; rw [this]; exact h.iter
 · have := vQ lz h.rel.rel e2 (by omega)
   rw [aS] at this; rw [this]; exact h.map
theorem pP.del (h : pP C fid vars N base li l r jN bE st G w seen es d bk s ax al aC) (iZ : l < li) {vars' : List Nat} {o : Oper} {m k : Operand} {t eh q3 u : TypeId} (bx : eR C fid) (hd : C.P.underlying t = some (.map eh q3)) {am gR : aj} {bL : Nat}
  (ho : o.op = .call { callee := .builtin .delete, args := #[m, k], argTypes := #[t, u] }) (h1 : C.bV vars m = some am) (h2 : C.bV vars k = some gR) (gh : C.iQ eh = some bL) (ah : am.ag s.aE s.aw = .map l) {bN : Option V} (h7 : hv bL (gR.ag s.aE s.aw) bk = some bN) :
  ∃ bC bq bB, (execOp al.eval o).run C.P aC = .ok (.value (.tuple #[])) bB /\ bC.toList.Sublist es.toList /\
    pP C fid vars N base li l r jN bE st G w seen bC d (hY bL (gR.ag s.aE s.aw) bk) { s with aE := [], H := s.H.set l (.map (hY bL (gR.ag s.aE s.aw) bk)), low := min s.low l } bq al bB := by
 obtain ⟨av, b5, bZ⟩ := h.hi
 obtain ⟨bc, cU, cR⟩ := h.hm
 obtain ⟨ou, iV, KZ, arQ, fB, ee, cO, cp⟩ := xL h.rel.rel cU h.mp
 rw [cR, h.map] at fB
 cases fB
 have dn : aC.heap[bc.b]? = some (.map es bE) := by rw [cR]; exact h.map
 obtain ⟨bC, cf, cn, dZ, lx, W3⟩ := ajx (rf bx h.rel) hd ho h1 h2 gh ah cU dn ee cO cp h7
 generalize hY bL (gR.ag s.aE s.aw) bk = ajy at *
 have aH : bc.b < aC.heap.size := h.rel.rel.blk l bc cU
 have tU : ∀ b, b ≠ bc.b -> ({ aC with heap := aC.heap.setIfInBounds bc.b (.map bC bE) } : World).heap[b]? = aC.heap[b]? := fun b bA => by
  show (aC.heap.setIfInBounds bc.b _)[b]? = _
  rw [Px (ki bA)]
 have zQ : ({ aC with heap := aC.heap.setIfInBounds bc.b (.map bC bE) } : World).heap[bc.b]? = some (.map bC bE) := by
  show (aC.heap.setIfInBounds bc.b _)[bc.b]? = _
  simp [aH]
 have dP : ({ aC with heap := aC.heap.setIfInBounds bc.b (.map bC bE) } : World).heap.size = aC.heap.size := by simp
 have ed : Ext ax aC ⟨cg ax.β l bc, ax.I⟩ { aC with heap := aC.heap.setIfInBounds bc.b (.map bC bE) } l s.H.length :=
  Ext.write h.rel.rel cU iV rfl (aK _) id rfl dP tU rfl rfl
 have mT : Ext ax aC ⟨cg ax.β l bc, ax.I⟩ { aC with heap := aC.heap.setIfInBounds bc.b (.map bC bE) } 0 s.H.length := ed.le (cx _) (aK _)
 have xK : bC.toList.Sublist es.toList := by
  rcases W3 with ⟨rfl, -⟩ | ⟨j, rfl, -⟩
  · exact r3 _
  · rw [Y2]; exact List.eraseIdx_sublist _ _
 refine ⟨bC, ⟨cg ax.β l bc, ax.I⟩, _, cf, xK, ⟨⟨?_, fun t => ?_, h.rel.size, ?_⟩, ⟨⟨?_, jA _ _, fun x hx => ?_⟩, h.bN.2⟩, ?_, fun m hm => ?_, h.marks.ext mT, ?_, ?_, ?_, ?_, ?_, ?_, ?_⟩⟩
 · exact bb.write h.rel.rel cU iV rfl iV (aK _) id rfl dP tU (.map ajy) ⟨ou, iV, bC, bE, zQ, cn.ext h.rel.rel ed, dZ.ext h.rel.rel ed, lx⟩
 · exact ((h.rel.clear).env t).ext h.rel.rel mT
 · show min s.low l <= (s.H.set l _).length
   rw [zo]
   exact c4 (jA _ _) h.rel.low
 · show st.H.length <= (s.H.set l _).length
   rw [zo]; exact h.bN.1.len
 · have W4 : x < min st.low l := hx
   show (s.H.set l _)[x]? = _
   rw [k4 (by omega)]
   exact h.bN.1.same x hx
 · show li < (s.H.set l _).length
   rw [zo]; exact h.len
 · exact (h.ext m hm).trans (ed.le (by omega) h.bN.1.len)
 · exact ⟨av, by show cg ax.β l bc li = _; rw [dp (by omega)]; exact b5, bZ⟩
 · exact ⟨bc, de _ _ _, cR⟩
 · show (s.H.set l _)[li]? = _
   rw [k4 (by omega)]; exact h.gone
 · show (s.H.set l _)[l]? = _
   rw [tc (h.rel.rel.lt cU)]
 · rw [tU r (fun q => ?_)]
   · exact h.iter
   · have := h.rel.rel.inj _ _ _ _ b5 cU (by rw [bZ]; exact q)
     omega
 · rw [<- cR]; exact zQ
 · intro p hp hb
   refine h.hand p ?_ hb
   rcases W3 with ⟨rfl, rfl⟩ | ⟨j, rfl, rfl⟩
   · exact hp
   · rw [Y2] at hp
     exact W2 hp
end
end Go.Abs
namespace Go.Abs
open Go
variable {C : Ctx} {fid : Nat -> Nat} {w w' : World} {G G' : bT} {H H' : Heap}
structure yS where
 ec : cm
 c : aj
 EF : List b3
 m : aj
 k : aj
 bL : Nat
structure W5 (C : Ctx) (vars : List Nat) (N : Nat) (body : Code) (D : yS) : Prop where
 ok : ∃ (sX : Code) (x id : Nat) (ops : Array Oper) (os : List Oper) (gQ : Oper) (m k : Operand) (t eh q3 u : TypeId),
  body = .seq sX (.cond (.tmp x) (.region id ops false) .skip) /\ C.code vars N sX = some D.ec /\ C.bV vars (.tmp x) = some D.c /\ ops.toList = os ++ [gQ] /\ dH (C.oper vars N ops) os = some D.EF /\
  gQ.op = .call { callee := .builtin .delete, args := #[m, k], argTypes := #[t, u] } /\ gQ.dst = none /\ gQ.guard = none /\ C.bV vars m = some D.m /\ C.bV vars k = some D.k /\ C.P.underlying t = some (.map eh q3) /\ C.iQ eh = some D.bL
def e9.Bc (R : e9) (call : c3) (kv : V × V) (st : au) : Option au :=
 match R.step call (.ba [.bool true, kv.1, kv.2]) { st with low := st.H.length } with
 | some bW => match R.more.ag bW.aE bW.aw with
   | .bool true =>
     if dN (bJ bW.aw R.it) (bJ st.aw R.it) = true then
      match c9 call R.t2 (({ bW with aE := [] } : au).put (some R.pair) (.ba [kv.1, kv.2])) [] with
      | some (gi, _) => some { gi with aE := [] }
      | none => none
     else none
   | _ => none
 | none => none
def Of (R : e9) (D : yS) (ad : Nat -> Option ca) (l li : Nat) (bk : List (V × V)) (kv : V × V) (s : au) (Inv : List (V × V) -> au -> Prop) : Prop :=
 ∃ s2 eV, R.Bc (cK ad) kv s = some s2 /\ dO ad D.ec s2 = some (.normal, eV) /\ li < eV.low /\
   ((D.c.ag eV.aE eV.aw = .bool false /\ Inv bk eV) \/
    (D.c.ag eV.aE eV.aw = .bool true /\ ∃ jx wr bN, c9 (cK ad) D.EF { eV with aE := [] } [] = some (jx, wr) /\ li < jx.low /\ D.m.ag jx.aE jx.aw = .map l /\ hv D.bL (D.k.ag jx.aE jx.aw) bk = some bN /\
      Inv (hY D.bL (D.k.ag jx.aE jx.aw) bk) { jx with aE := [], H := jx.H.set l (.map (hY D.bL (D.k.ag jx.aE jx.aw) bk)), low := min jx.low l }))
theorem ajz {α β : Type} {l : List α} {m : List β} {p : α × β} (h : p ∈ l.zip m) : ∃ i : Nat, l[i]? = some p.1 /\ m[i]? = some p.2 := by
 obtain ⟨i, hi⟩ := nu.1 h
 refine ⟨i, ?_⟩
 rw [zl] at hi
 exact hi
theorem ajA {α β : Type} {l : List α} {m : List β} {i : Nat} {a : α} {b : β} (h1 : l[i]? = some a) (h2 : m[i]? = some b) : (a, b) ∈ l.zip m :=
 fm (zl.2 ⟨h1, h2⟩ : (l.zip m)[i]? = some (a, b))
theorem ajB {es : Array MapEntry} (hn : (es.toList.map (·.born)).Nodup) {i j : Nat} {a b : MapEntry} (h1 : es.toList[i]? = some a) (h2 : es.toList[j]? = some b) (h : a.born = b.born) : i = j := by
 obtain ⟨hi, q1⟩ := fy.1 h1
 obtain ⟨hj, aS⟩ := fy.1 h2
 have hp := Py.1 hn
 rcases Nat.lt_trichotomy i j with q | q | q
 · exact absurd (show (es.toList.map (·.born))[i]'(by simpa using hi) = (es.toList.map (·.born))[j]'(by simpa using hj) by rw [Fh, Fh, q1, aS, h]) (hp i j (by simpa using hi) (by simpa using hj) q)
 · exact q
 · exact absurd (show (es.toList.map (·.born))[j]'(by simpa using hj) = (es.toList.map (·.born))[i]'(by simpa using hi) by rw [Fh, Fh, q1, aS, h]) (hp j i (by simpa using hj) (by simpa using hi) q)
theorem ajC {es : Array MapEntry} {seen : Array Nat} {e : MapEntry} (he : e ∈ (leftOf es seen).toList) : (leftOf es (seen.push e.born)).size < (leftOf es seen).size := by
 have asP : e ∈ es.toList /\ seen.contains e.born = false := by
  unfold leftOf at he
  simpa using he
 unfold leftOf
 have key : ∀ p : MapEntry -> Bool, (es.filter p).size = (es.toList.filter p).length := fun p => by rw [<- gW, Array.toList_filter]
 rw [key, key]
 refine filter_lt _ _ (fun x hx => ?_) e ?_ ?_ _ asP.1
 · simp only [Array.contains_push, pZ, JH] at hx ⊢
   simp at hx ⊢
   exact hx.1
 · rw [asP.2]; rfl
 · simp
theorem ajD {es bC : Array MapEntry} {seen : Array Nat} (h : bC.toList.Sublist es.toList) : (leftOf bC seen).size <= (leftOf es seen).size := by
 unfold leftOf
 have key : ∀ (es : Array MapEntry) (p : MapEntry -> Bool), (es.filter p).size = (es.toList.filter p).length := fun es p => by rw [<- gW, Array.toList_filter]
 rw [key, key]
 exact (h.filter _).length_le
theorem ajE {es : Array MapEntry} {seen : Array Nat} (h : (leftOf es seen).size = 0) : ∀ e ∈ es.toList, e.born ∈ seen := by
 intro e he
 have h0 : leftOf es seen = #[] := Y3 h
 unfold leftOf at h0
 rw [Y4] at h0
 have h1 := h0 e (by simpa using he)
 simp only [pZ, atG] at h1
 rw [Y9] at h1
 exact h1
section
variable {vars : List Nat} {N n : Nat} {ad : Nat -> Option ca}
theorem W6 {c : cm} {st : au} {r : X × au} (h : dO ad c st = some r) : ∃ n, Abs.exec (cK ad) n c st = some r := by
 obtain ⟨n, hn⟩ := fS.1 h
 exact ⟨n, qU (BL n) (aK _) c st r hn⟩
theorem ajF (cC : C.P.follows .mixedOrders = true) (bx : eR C fid) (bj : gx C fid (cK ad)) {k0 i1 i2 : Nat} {gK on ja : Oper} {jO jP jb : Array Oper} {mX mY : List Oper}
  {mt it aF more pair out ep : Nat} {tm qq qs : TypeId} {body : Code} {R : e9} {D : yS}
  (h0 : jO[k0]? = some gK) (ug : C.bV vars (.tmp mt) = some R.src) (ri : gK.op = .range tm (.tmp mt)) (uh : gK.dst = some it) (ui : gK.guard = none) (hit : it < N) (uj : C.P.underlying tm = some (.map qq qs))
  (h1 : jP.toList = on :: mX) (pn : on.op = .next (.tmp it) false) (hnd : on.dst = some aF) (rj : on.guard = none) (mQ : aF < N)
  (h2 : jb.toList = ja :: mY) (rk : ja.op = .entry (.tmp it)) (uk : ja.dst = some pair) (um : ja.guard = none) (uo : pair < N)
  (po : vars.contains it = true) (rl : R.aF = (aF, vars.contains aF)) (uq : R.pair = (pair, vars.contains pair))
  (pd : dH (C.oper vars N jP) mX = some R.t1) (nA : dH (C.oper vars N jb) mY = some R.t2) (pq : C.bV vars (.tmp more) = some R.more) (vS : W5 C vars N body D) (CC : R.it = it)
  {st : au} {l : Nat} {bk : List (V × V)} (qt : R.src.ag st.aE st.aw = .map l) (mZ : st.H[l]? = some (.map bk)) (Inv : List V -> List (V × V) -> au -> Prop) (Out : List (V × V) -> au -> Prop)
  (ur : Inv [] bk (hD it st)) (rm : ∀ d es s, Inv d es s -> bJ s.aw it = .ptr st.H.length 0)
  (oB : ∀ d es s, Inv d es s -> ∀ kv ∈ es, Of R D ad l st.H.length es kv s (fun bC ar => Inv (d ++ [kv.1]) bC ar))
  (h9 : ∀ d es s, Inv d es s -> (∀ kv ∈ es, kv.1 ∈ d) -> ∃ ar, R.fin (cK ad) s = some ar /\ st.H.length < ar.low /\ Out es ar)
  {a : Act} {ro : Option Nat} {base : Nat} {Q LP : Exit -> Act -> World -> Prop} (aa : dx C fid vars N G st a w) (eB : ua G st.ro ro) (ev : j7 C G w base a.defers) (hb : base <= w.heap.size)
  (dy : ∀ es ar G' bf w', Out es ar -> fU st { ar with low := min st.low l } -> Fin C fid vars N base st G w { ar with low := min st.low l } G' bf w' -> Q .normal bf w') :
  wpOpIn (ek ro) 0 C.P jO LP k0 (fun bf w' => (Code.block out (.loop (.seq (.region i1 jP false) (.seq (.cond (.tmp more) .skip (.exit out)) (.block ep (.seq (.region i2 jb false) body)))))).wpIn (ek ro) 0 C.P Q bf w') a w := by
 obtain ⟨sX, sk, W7, I2, W8, gQ, cZ, FU, arR, arS, arT, arU, rfl, mO, ajG, Og, ajH, W9, ajI, ajJ, ajK, iy, ajL, ajM⟩ := vS.ok
 have lh := rf bx aa (.tmp mt) R.src ug
 rw [qt] at lh
 obtain ⟨eU, uu, LQ, LR⟩ := lh.mapInv
 obtain ⟨-, -, es, bE, fL, ee, cO, cp⟩ := xL aa.rel uu mZ
 have iZ : l < st.H.length := aa.rel.lt uu
 have Cb : (execOp a.eval gK).run C.P w = .ok (.value (.pointer (some ⟨w.heap.size, 0, none⟩))) (w.alloc (.mapIter (some eU.b) bE #[] bE)) := by
  unfold execOp
  rw [ri]
  have e : a.eval (.tmp mt) = .map (some eU.b) := LR
  simp only [e, Sem.run_bind, run_range_map w tm qq qs eU.b es bE uj fL, Result.andThen_ok, Sem.run_pure]
 have LU := aa.rel.push .gone (.mapIter (some eU.b) bE #[] bE) 0 0 ⟨rfl, rfl⟩
 have qp : ∀ m k, k <= st.H.length -> Ext G w ⟨cg G.β st.H.length ⟨w.heap.size, 0, 0, false⟩, G.I⟩ (w.alloc (.mapIter (some eU.b) bE #[] bE)) m k := fun m k ai => (Ext.push aa.rel (.mapIter (some eU.b) bE #[] bE) 0 0 m).le (aK _) ai
 have LV : dx C fid vars N ⟨cg G.β st.H.length ⟨w.heap.size, 0, 0, false⟩, G.I⟩ { st with H := st.H ++ [.gone] } a (w.alloc (.mapIter (some eU.b) bE #[] bE)) :=
  ⟨LU, fun t => (aa.env t).ext aa.rel (qp 0 0 (cx _)), aa.size, by have := aa.low; simp only [kg, iv, qQ]; omega⟩
 have ov : dx C fid vars N ⟨cg G.β st.H.length ⟨w.heap.size, 0, 0, false⟩, G.I⟩ (hD it st) (a.put (some it) (.pointer (some ⟨w.heap.size, 0, none⟩))) (w.alloc (.mapIter (some eU.b) bE #[] bE)) := by
  have := LV.put hit (v := .ptr st.H.length 0) (x := .pointer (some ⟨w.heap.size, 0, none⟩)) (.ptr st.H.length 0 ⟨w.heap.size, 0, 0, false⟩ (de _ _ _) rfl)
  rw [po] at this
  exact this.clear
 suffices LW : ∀ G' bf w', dx C fid vars N G' (hD it st) bf w' -> (∀ m, m <= (hD it st).H.length -> Ext ⟨cg G.β st.H.length ⟨w.heap.size, 0, 0, false⟩, G.I⟩ (w.alloc (.mapIter (some eU.b) bE #[] bE)) G' w' m (hD it st).H.length) ->
   bf.defers = a.defers -> (Code.block out (.loop (.seq (.region i1 jP false) (.seq (.cond (.tmp more) .skip (.exit out)) (.block ep (.seq (.region i2 jb false) (.seq sX (.cond (.tmp sk) (.region W7 I2 false) .skip)))))))).wpIn (ek ro) 0 C.P Q bf w' by
  refine Gk h0 ui (by rw [ri]; simp) Cb ?_
  rw [uh]
  exact LW _ _ _ ov (fun m _ => .refl _ _ _ _) (by rw [put_defers])
 intro G' bf w' bG ch eL
 refine wpIn_block (Ga (fun k al aC => ∃ d seen es bk s ax, Inv d bk s /\ (leftOf es seen).size < k /\ pP C fid vars N base st.H.length l w.heap.size eU.b bE st G w seen es d bk s ax al aC) ?_
  (j := (leftOf es #[]).size + 1) ?_)
 · rintro k al aC ⟨d, seen, es, bk, s, ax, aZ, ai, bM⟩
   obtain ⟨bs, rfl⟩ : ∃ bs, k = bs + 1 := ⟨k - 1, by omega⟩
   refine ⟨bs, rfl, ?_⟩
   obtain ⟨av, b5, bZ⟩ := bM.hi
   obtain ⟨bc, cU, cR⟩ := bM.hm
   have CD : al.eval (.tmp it) = .pointer (some ⟨w.heap.size, 0, none⟩) := by
    have := bM.rel.env it
    rw [show dD vars s it = bJ s.aw it by unfold dD; rw [if_pos po], rm d bk s aZ] at this
    obtain ⟨h5, ej, -, eM⟩ := this.nB
    rw [b5] at ej; cases ej
    rw [bZ] at eM; exact eM
   have uv : ∀ c, on.op ≠ .defer c := by rw [pn]; simp
   have zT : ∀ c, ja.op ≠ .defer c := by rw [rk]; simp
   obtain ⟨ac5, ac6, bC, q4, CE, vF, xq, xr⟩ := xL bM.rel.rel cU bM.mp
   rw [cR, bM.map] at CE
   cases CE
   have LS : bk.length = es.size := by
    have := vF.length
    simpa using this.symm
   rcases Sv (P := C.P) on.type bM.iter bM.map xr.1 (aK _) with ⟨dP, cf⟩ | ⟨e, he, bB, uw, LX, LY, cf⟩
   ·
    have eo : ∀ kv ∈ bk, kv.1 ∈ d := fun kv kP => by
     obtain ⟨i, hi⟩ := nu.1 kP
     have qu : i < es.toList.length := by
      have := (fy.1 hi).1
      simp; omega
     have ajN : es.toList[i]? = some es.toList[i] := oV qu
     exact bM.hand _ (ajA ajN hi) (ajE dP _ (JQ qu))
    obtain ⟨ar, ae, ix, LZ⟩ := h9 d bk s aZ eo
    unfold e9.fin e9.step at ae
    split at ae
    · rename_i s1 gn
      split at gn
      · rename_i jc wr hex
        cases gn
        split at ae
        · rename_i ux
          cases ae
          have xM : (execOp al.eval on).run C.P aC = .ok (.value (.tuple #[.bool false])) aC := by
           unfold execOp
           rw [pn]
           simp only [CD, Sem.run_bind, cf, Result.andThen_ok, Sem.run_pure]
          have ub : dx C fid vars N ax (({ s with aE := [], low := s.H.length } : au).put (some R.aF) (.ba [.bool false])) (al.put (some aF) (.tuple #[.bool false])) aC := by
           rw [rl]
           exact bM.rel.reset.put mQ (.ba _ _ (.cons _ _ _ _ (.p _ _ (.bool false)) .nil))
          refine wpIn_seq (Af bx bj h1 hnd rj uv pd xM ub hex fun bq a2 fr gq iB rh => ?_)
          have fG := jL ({ s with aE := [], low := s.H.length } : au) (some R.aF) (.ba [.bool false])
          have dX := nI bj.bN _ _ _ _ _ (by rw [fG.1, fG.2.1]; exact aK _) hex
          have eC : pP C fid vars N base st.H.length l w.heap.size eU.b bE st G w seen es d bk { jc with aE := [] } bq a2 fr := by
           refine bM.on iZ gq.clear (fun m hm => ?_) ix ?_ ?_ ?_
           · have := iB m hm
             rw [fG.1] at this; exact this
           · have := dX.1
             rw [fG.1, fG.2.1] at this; exact this
           · exact dX.2.trans fG.2.2
           · have := bM.marks.ext (iB 0 (cx _))
             rw [rh]; exact this
          have af := rf bx eC.rel (.tmp more) R.more pq
          rw [ux] at af
          refine wpIn_seq (wpIn_cond_false af.j1 (wpIn_exit ?_))
          show (if out = out then Q .normal a2 fr else _)
          rw [if_pos rfl]
          have := eC.len
          exact dy _ _ bq a2 fr LZ eC.bN ⟨⟨eC.rel.rel, eC.rel.env, eC.rel.size, c4 (asU _ _) (c4 (r7 iZ) (r7 eC.len))⟩, eC.ext, eC.marks⟩
        · cases ae
      · cases gn
    · cases ae
   ·
    have Xa : e ∈ es.toList /\ seen.contains e.born = false := by
     unfold leftOf at he
     simpa using he
    obtain ⟨i, hi⟩ := nu.1 Xa.1
    have ko := ajC he
    have qu : i < es.toList.length := (fy.1 hi).1
    obtain ⟨L0, vP⟩ := Gl bM.rel.rel b5 bM.gone
    obtain ⟨kv, kP⟩ : ∃ kv, bk[i]? = some kv := ⟨bk[i]'(by simp at qu; omega), by simp⟩
    have L1 : bg fid ax aC kv.1 e.key := by
     obtain ⟨x, hx, hr⟩ := vF.get (i := i) (v := kv.1) (by rw [kh, kP]; rfl)
     rw [kh, hi] at hx
     cases hx; exact hr
    have na : bg fid ax aC kv.2 e.val := by
     obtain ⟨x, hx, hr⟩ := xq.get (i := i) (v := kv.2) (by rw [kh, kP]; rfl)
     rw [kh, hi] at hx
     cases hx; exact hr
    obtain ⟨arV, eV, sY, Gn, Sg, F3⟩ := oB d bk s aZ kv (fm kP)
    have hT := turn bM.rel.rel b5 vP (.mapIter (some eU.b) bE (seen.push e.born) bE) .gone fun _ _ _ => ⟨L0, vP⟩
    rw [Gm bM.gone] at hT
    have uy : bB.heap = (aC.putObj av.b (.mapIter (some eU.b) bE (seen.push e.born) bE)).heap := by rw [uw, bZ]; rfl
    have xO : bb C fid ax s.H bB := hT.1.la uy
    have xP : ∀ m, m <= st.H.length -> Ext ax aC ax bB m s.H.length := fun m hm => (hT.2.le hm (aK _)).trans (.la uy LX LY _ _)
    have CF : bB.heap[w.heap.size]? = some (.mapIter (some eU.b) bE (seen.push e.born) bE) := by
     rw [uy, <- bZ]; exact World.putObj_heap_same (bM.rel.rel.blk _ _ b5)
    have pb : bB.heap[eU.b]? = some (.map es bE) := by
     rw [uy, World.putObj_heap_other (fun q => ?_)]
     · exact bM.map
     · have := bM.rel.rel.inj _ _ _ _ b5 cU (by rw [cR, <- q]); omega
    have CG : dx C fid vars N ax s al bB := ⟨xO, fun t => (bM.rel.env t).ext bM.rel.rel (xP 0 (cx _)), bM.rel.size, bM.rel.low⟩
    have xQ := xP 0 (cx _)
    have CH : pP C fid vars N base st.H.length l w.heap.size eU.b bE st G w (seen.push e.born) es (d ++ [kv.1]) bk s ax al bB :=
     ⟨CG, bM.bN, bM.len, fun m hm => (bM.ext m hm).trans ((xP m (by omega)).le (aK _) bM.bN.1.len), bM.marks.ext xQ, bM.hi, bM.hm, bM.gone, bM.mp, CF, pb, fun p hp Bd => by
      obtain ⟨j, ajO, Xb⟩ := ajz hp
      rw [Array.mem_push] at Bd
      rcases Bd with Bd | Bd
      · exact wX _ (bM.hand p hp Bd)
      · have := ajB xr.2 ajO hi Bd
        subst this
        rw [kP] at Xb
        cases Xb
        simp⟩
    have CI := L1.ext bM.rel.rel xQ
    have CJ := na.ext bM.rel.rel xQ
    unfold e9.Bc e9.step at sY
    split at sY
    case h_2 => cases sY
    rename_i s1 gn
    split at gn
    case h_2 => cases gn
    rename_i jc wr hex
    cases gn
    split at sY
    case h_2 => cases sY
    rename_i ux
    split at sY
    case isFalse => cases sY
    rename_i L2
    have L3 : bJ jc.aw it = .ptr st.H.length 0 := by
     have := tV _ _ L2
     rw [CC] at this
     exact this.trans (rm d bk s aZ)
    split at sY
    case h_2 => cases sY
    rename_i s2 L4 CK
    cases sY
    have xM : (execOp al.eval on).run C.P aC = .ok (.value (.tuple #[.bool true, e.key, e.val])) bB := by
     unfold execOp
     rw [pn]
     simp only [CD, Sem.run_bind, cf, Result.andThen_ok, Sem.run_pure]
    have ub : dx C fid vars N ax (({ s with aE := [], low := s.H.length } : au).put (some R.aF) (.ba [.bool true, kv.1, kv.2])) (al.put (some aF) (.tuple #[.bool true, e.key, e.val])) bB := by
     rw [rl]
     exact CG.reset.put mQ (.ba _ _ (.cons _ _ _ _ (.p _ _ (.bool true)) (.cons _ _ _ _ CI (.cons _ _ _ _ CJ .nil))))
    have fG := jL ({ s with aE := [], low := s.H.length } : au) (some R.aF) (.ba [.bool true, kv.1, kv.2])
    have dX := nI bj.bN _ _ _ _ _ (by rw [fG.1, fG.2.1]; exact aK _) hex
    have lA := jL ({ jc with aE := [] } : au) (some R.pair) (.ba [kv.1, kv.2])
    have qn : jc.low <= jc.H.length := dX.bound (by rw [fG.1, fG.2.1]; exact aK _)
    have uz := nI bj.bN _ _ _ _ _ (by rw [lA.1, lA.2.1]; exact qn) CK
    have xy : s2.low <= s2.H.length := uz.bound (by rw [lA.1, lA.2.1]; exact qn)
    obtain ⟨FW, Xc⟩ := W6 Gn
    have rn := lq bj.bN FW _ _ _ _ (show ({ s2 with aE := [] } : au).low <= ({ s2 with aE := [] } : au).H.length from xy) Xc
    have ada : eV.low <= s2.low := rn.1.low
    have adb : s2.low <= jc.low := by have := uz.1.low; rw [lA.2.1] at this; exact this
    refine wpIn_seq (Af bx bj h1 hnd rj uv pd xM ub hex fun bq a2 fr gq iB rh => ?_)
    have eC : pP C fid vars N base st.H.length l w.heap.size eU.b bE st G w (seen.push e.born) es (d ++ [kv.1]) bk { jc with aE := [] } bq a2 fr := by
     refine CH.on iZ gq.clear (fun m hm => ?_) (by show st.H.length < jc.low; omega) ?_ ?_ ?_
     · have := iB m hm
       rw [fG.1] at this; exact this
     · have := dX.1
       rw [fG.1, fG.2.1] at this; exact this
     · exact dX.2.trans fG.2.2
     · have := CH.marks.ext (iB 0 (cx _))
       rw [rh]; exact this
    have af := rf bx eC.rel (.tmp more) R.more pq
    rw [ux] at af
    refine wpIn_seq (wpIn_cond_true af.j1 (wpIn_skip ?_))
    show (Code.block ep (.seq (.region i2 jb false) (.seq sX (.cond (.tmp sk) (.region W7 I2 false) .skip)))).wpIn (ek ro) 0 C.P _ a2 fr
    refine wpIn_block (wpIn_seq ?_)
    have L5 : a2.eval (.tmp it) = .pointer (some ⟨w.heap.size, 0, none⟩) := by
     have := eC.rel.env it
     rw [show dD vars { jc with aE := [] } it = bJ jc.aw it by unfold dD; rw [if_pos po], L3] at this
     obtain ⟨h5, ej, -, eM⟩ := this.nB
     obtain ⟨gu, jH, hC⟩ := eC.hi
     rw [jH] at ej; cases ej
     rw [hC] at eM; exact eM
    have L6 : (execOp a2.eval ja).run C.P fr = .ok (.value (.tuple #[e.key, e.val])) fr := by
     have Cs := Sw (P := C.P) eC.iter eC.map Xa.1 xr.2
     unfold execOp
     rw [rk]
     simp only [L5, Sem.run_bind, Cs, Result.andThen_ok, Sem.run_pure]
    have CL := iB 0 (cx _)
    have L7 : dx C fid vars N bq (({ jc with aE := [] } : au).put (some R.pair) (.ba [kv.1, kv.2])) (a2.put (some pair) (.tuple #[e.key, e.val])) fr := by
     rw [uq]
     exact eC.rel.put uo (.ba _ _ (.cons _ _ _ _ (CI.ext xO CL) (.cons _ _ _ _ (CJ.ext xO CL) .nil)))
    refine Af bx bj h2 uk um zT nA L6 L7 CK fun iW a3 Ag xH ud Cv => ?_
    have pr : pP C fid vars N base st.H.length l w.heap.size eU.b bE st G w (seen.push e.born) es (d ++ [kv.1]) bk { s2 with aE := [] } iW a3 Ag := by
     refine eC.on iZ xH.clear (fun m hm => ?_) (by show st.H.length < s2.low; omega) ?_ ?_ ?_
     · have := ud m hm
       rw [lA.1] at this; exact this
     · have := uz.1
       rw [lA.1, lA.2.1] at this
       exact ⟨this.len, c4 this.low qn, this.same⟩
     · exact uz.2.trans lA.2.2
     · have := eC.marks.ext (ud 0 (cx _))
       rw [Cv]; exact this
    refine wpIn_seq (qo (n := FW) cC bx bj sX _ _ _ mO _ _ _ Xc iW a3 Ag ro base _ pr.rel ?_ pr.marks (c4 hb (pr.ext 0 (cx _)).size) fun CM a4 Gp F => ?_)
    · have lv : ({ s2 with aE := [] } : au).ro = st.ro := pr.bN.2
      rw [lv]
      exact eB.ext (pr.ext 0 (cx _))
    have vT : pP C fid vars N base st.H.length l w.heap.size eU.b bE st G w (seen.push e.born) es (d ++ [kv.1]) bk eV CM a4 Gp :=
     pr.on iZ F.rel F.ext Sg ⟨rn.1.len, c4 rn.1.low xy, rn.1.same⟩ rn.2 F.marks
    have I3 := rf bx vT.rel (.tmp sk) D.c ajG
    rcases F3 with ⟨hc, xN⟩ | ⟨hc, jx, arW, arX, Xd, ajP, ajQ, ajR, xN⟩
    · rw [hc] at I3
      refine wpIn_cond_false I3.j1 (wpIn_skip ?_)
      exact ⟨d ++ [kv.1], seen.push e.born, es, bk, eV, CM, xN, by omega, vT⟩
    · rw [hc] at I3
      refine wpIn_cond_true I3.j1 (wpIn_region ?_)
      have ajS : I2.size = W8.length + 1 := by rw [<- gW, Og]; simp
      rw [ajS, Fa]
      have Xe : eV.low <= eV.H.length := vT.rel.low
      have I4 := nI bj.bN _ _ _ _ _ (show ({ eV with aE := [] } : au).low <= ({ eV with aE := [] } : au).H.length from Xe) Xd
      refine LM bx bj (k0 := 0) (fun j hj => by rw [eF, <- iK, Og, hq hj]) ajH vT.rel.clear Xd fun ajT a5 ajU ajV Xf ajW => ?_
      have ai : I2[0 + W8.length]? = some gQ := by rw [eF, <- iK, Og]; simp
      have ajX : pP C fid vars N base st.H.length l w.heap.size eU.b bE st G w (seen.push e.born) es (d ++ [kv.1]) bk jx ajT a5 ajU := by
       refine vT.on iZ ajV Xf ajP ⟨I4.1.len, c4 I4.1.low Xe, I4.1.same⟩ I4.2 ?_
       rw [ajW]
       exact vT.marks.ext (Xf 0 (cx _))
      obtain ⟨ajY, ajZ, arY, aj0, xK, aj1⟩ := ajX.del iZ (vars' := vars) bx ajL W9 ajK iy ajM ajQ ajR
      rw [th, wpOpsIn_cons]
      refine Gk ai ajJ (by rw [W9]; simp) aj0 ?_
      rw [ajI]
      refine ⟨d ++ [kv.1], seen.push e.born, ajY, _, _, ajZ, xN, ?_, aj1⟩
      have := ajD (seen := seen.push e.born) xK
      omega
 · have iz : (hD it st).H.length = st.H.length + 1 := by unfold hD; simp
   have ah := ch (st.H.length + 1) (by show st.H.length + 1 <= (hD it st).H.length; rw [iz]; exact aK _)
   have ez := qp 0 st.H.length (aK _)
   have asQ : (⟨cg G.β st.H.length ⟨w.heap.size, 0, 0, false⟩, G.I⟩ : bT).β l = some eU := by
    show cg G.β st.H.length ⟨w.heap.size, 0, 0, false⟩ l = some eU
    rw [dp (by omega)]; exact uu
   have xi : (⟨cg G.β st.H.length ⟨w.heap.size, 0, 0, false⟩, G.I⟩ : bT).β st.H.length = some ⟨w.heap.size, 0, 0, false⟩ := de _ _ _
   refine ⟨[], #[], es, bk, hD it st, G', ur, wZ _, ⟨⟨bG.rel, bG.env, bG.size, ?_⟩, ⟨⟨?_, jA _ _, fun x hx => ?_⟩, rfl⟩, ?_, fun m hm => ?_, ?_, ?_, ?_, ?_, ?_, ?_, ?_, fun p _ hp => by simp at hp⟩⟩
   · exact ov.low
   · show st.H.length <= (hD it st).H.length
     omega
   · have ed : x < min st.low l := hx
     show (st.H ++ [cE.gone])[x]? = _
     rw [hq (by omega)]
   · omega
   · exact (qp m st.H.length (aK _)).trans ((ch m (by show m <= (hD it st).H.length; omega)).le (aK _) (by show st.H.length <= (hD it st).H.length; omega))
   · rw [eL]
     exact (ev.ext ez).ext ah
   · exact vR ah xi rfl
   · exact vR ah asQ LQ
   · show (st.H ++ [cE.gone])[st.H.length]? = _
     simp
   · show (st.H ++ [cE.gone])[l]? = _
     rw [hq iZ]; exact mZ
   · have := vQ ah ov.rel xi (wZ _)
     rw [this]; exact oe _ _
   · have := vQ ah ov.rel asQ (by omega)
     rw [this, alloc_old (aa.rel.blk _ _ uu)]; exact fL
end
end Go.Abs
namespace Go.Abs
open Go
variable {C : Ctx} {fid : Nat -> Nat} {w w' : World} {G G' : bT} {H H' : Heap}
variable {vars : List Nat} {N : Nat} {ad : Nat -> Option ca}
theorem c1.dO (cC : C.P.follows .mixedOrders = true) (bx : eR C fid) (bj : gx C fid (cK ad)) {c : Code} {ac : cm} (hc : C.code vars N c = some ac) {st aU : au} {x : X} (he : Abs.dO ad ac st = some (x, aU)) :
  c1 C fid vars N c st (fun y s => y = x /\ s = aU) := by
 obtain ⟨n, hn⟩ := W6 he
 exact c1.exec (n := n) cC bx bj hc hn
theorem c1.block {id : Nat} {c : Code} {st : au} {Out : X -> au -> Prop} (h : c1 C fid vars N c st (fun x s => Out (Ai id x) s)) : c1 C fid vars N (.block id c) st Out := fun G a w ro base Q aa eB ev hb dy => by
 refine wpIn_block (h G a w ro base _ aa eB ev hb fun x s ax al aC ho ae F => ?_)
 have := dy _ _ ax al aC ho ae F
 cases x with
 | normal => exact this
 | ret => exact this
 | exit j =>
   simp only [Ai] at this
   cases hb : Nat.beq j id with
   | true =>
     rw [hb] at this
     have e := fl hb
     subst e
     simp only [z1, Exit.inBlock, if_true]
     exact this
   | false =>
     rw [hb] at this
     have e : ¬ j = id := fun e => by rw [e, zt] at hb; cases hb
     simp only [z1, Exit.inBlock, e, if_false]
     exact this
theorem c1.loop {c : Code} {st : au} {Out : X -> au -> Prop} (I : Nat -> au -> Prop) (k : Nat) (h0 : I k st) (h : ∀ k s, I k s -> c1 C fid vars N c s (fun x ar => (x = .normal /\ ∃ j, k = j + 1 /\ I j ar) \/ (x ≠ .normal /\ Out x ar))) : c1 C fid vars N (.loop c) st Out := fun G a w ro base Q aa eB ev hb dy => by
 refine Ga (fun k al aC => ∃ j s ax, k = j + 1 /\ I j s /\ fU st s /\ Fin C fid vars N base st G w s ax al aC) ?_ (j := k + 1) ⟨k, st, G, rfl, h0, .refl _, .refl aa ev⟩
 rintro _ al aC ⟨k, s, ax, rfl, aZ, ae, F⟩
 refine ⟨k, rfl, ?_⟩
 refine h k s aZ ax al aC ro base _ F.rel (by rw [ae.2]; exact eB.ext (F.ext 0 (cx _))) F.marks (c4 hb (F.ext 0 (cx _)).size) fun x s2 bq a2 bB ho xS sA => ?_
 rcases ho with ⟨rfl, j, hj, aj2⟩ | ⟨hx, ho⟩
 · exact ⟨j, s2, bq, hj, aj2, ae.trans xS, F.trans sA ae xS⟩
 · have := dy x s2 bq a2 bB ho (ae.trans xS) (F.trans sA ae xS)
   cases x with
   | normal => exact absurd rfl hx
   | exit id => exact this
   | ret => exact this
def Oh : Go.Op -> Option (Operand × Operand × TypeId × TypeId)
 | .call ⟨.builtin .delete, ⟨[m, k]⟩, ⟨[t, u]⟩⟩ => some (m, k, t, u)
 | _ => none
theorem aj3 {o : Go.Op} {m k : Operand} {t u : TypeId} (h : Oh o = some (m, k, t, u)) : o = .call { callee := .builtin .delete, args := #[m, k], argTypes := #[t, u] } := by
 unfold Oh at h
 split at h
 · cases h; rfl
 · cases h
def Be (C : Ctx) (vars : List Nat) (N : Nat) : Code -> Option yS
 | .seq sX (.cond (.tmp x) (.region _ ops false) .skip) => match xT ops.toList with
   | some (os, ⟨none, gQ, _, _, _, none⟩) => match Oh gQ with
     | some (m, k, t, _) => match C.code vars N sX, C.bV vars (.tmp x), dH (C.oper vars N ops) os, C.bV vars m, C.bV vars k, C.P.underlying t with
       | some ec, some c, some EF, some am, some gR, some (.map eh _) => (C.iQ eh).map fun bL => ⟨ec, c, EF, am, gR, bL⟩
       | _, _, _, _, _, _ => none
     | _ => none
   | _ => none
 | _ => none
theorem aj4 {body : Code} {D : yS} (h : Be C vars N body = some D) : W5 C vars N body D := by
 unfold Be at h
 split at h
 · rename_i sX x id ops
   split at h
   · rename_i os gQ ty ps k8 ez
     split at h
     · rename_i m k t u hd
       split at h
       · rename_i ec c EF am gR eh q3 ah e2 b5 cU ej jH
         obtain ⟨bL, gh, rfl⟩ := cD.1 h
         exact ⟨sX, x, id, ops, os, _, m, k, t, eh, q3, u, rfl, ah, e2, L9 ez, b5, aj3 hd, rfl, rfl, cU, ej, jH, gh⟩
       · cases h
     · cases h
   · cases h
 · cases h
def I5 : Code -> Code
 | .seq (.region _ _ false) (.block _ (.loop (.seq (.region _ _ false) (.seq (.cond (.tmp _) .skip (.exit _)) (.block _ (.seq (.region _ _ false) body)))))) => body
 | _ => .skip
theorem c1.aj5 (cC : C.P.follows .mixedOrders = true) (bx : eR C fid) (bj : gx C fid (cK ad)) {c : Code} {R : e9} {D : yS} (hr : xU C vars N c = some R) (hd : Be C vars N (I5 c) = some D) {iC st : au} {wr : List Bool} (he : c9 (cK ad) R.t0 { iC with aE := [] } [] = some (st, wr))
  {l : Nat} {bk : List (V × V)} (qt : R.src.ag st.aE st.aw = .map l) (mZ : st.H[l]? = some (.map bk)) (Inv : List V -> List (V × V) -> au -> Prop) (Out : List (V × V) -> au -> Prop)
  (ur : Inv [] bk (hD R.it st)) (rm : ∀ d es s, Inv d es s -> bJ s.aw R.it = .ptr st.H.length 0)
  (oB : ∀ d es s, Inv d es s -> ∀ kv ∈ es, Of R D ad l st.H.length es kv s (fun bC ar => Inv (d ++ [kv.1]) bC ar))
  (h9 : ∀ d es s, Inv d es s -> (∀ kv ∈ es, kv.1 ∈ d) -> ∃ ar, R.fin (cK ad) s = some ar /\ st.H.length < ar.low /\ Out es ar) :
  c1 C fid vars N c iC (fun x s => x = .normal /\ ∃ es ar, Out es ar /\ s = { ar with low := min st.low l }) := fun G a w ro base Q aa eB ev hb dy => by
 obtain ⟨i0, i1, i2, gK, on, ja, jO, jP, jb, oC, mX, mY, mt, aF, more, pair, out, tm, qq, qs, body, rfl, h0, ou, ug, ri, uh, ui, hit, uj, h1, pn, hnd, rj, mQ, h2, rk, uk, um, uo, po, rl, uq, pd, nA, pq, vS⟩ := (SF hr).ok
 have dX := nI bj.bN _ _ _ _ _ (show ({ iC with aE := [] } : au).low <= ({ iC with aE := [] } : au).H.length from aa.low) he
 have xR : fU iC st := dX
 have dP : jO.size = oC.length + 1 := by rw [<- gW, h0]; simp
 refine wpIn_seq (wpIn_region ?_)
 rw [dP, Fa]
 refine LM bx bj (k0 := 0) (fun j hj => by rw [eF, <- iK, h0, hq hj]) ou aa.clear he fun ax al aC bG ch eL => ?_
 have ez := ch 0 (cx _)
 have ai : jO[0 + oC.length]? = some gK := by rw [eF, <- iK, h0]; simp
 have CN : j7 C ax aC base al.defers := by rw [eL]; exact ev.ext ez
 rw [th, wpOpsIn_cons]
 exact ajF (ad := ad) cC bx bj ai ug ri uh ui hit uj h1 pn hnd rj mQ h2 rk uk um uo po rl uq pd nA pq (aj4 hd) rfl qt mZ Inv Out ur rm oB h9 bG (by rw [xR.2]; exact eB.ext ez) CN (c4 hb ez.size)
  fun es ar G' bf w' ho ae F => dy .normal _ G' bf w' ⟨rfl, es, ar, ho, rfl⟩ (xR.trans ae) (Fin.trans (st := iC) (bW := st) ⟨bG, ch, CN⟩ F xR ae)
end Go.Abs
namespace Go.Abs
open Go
section
variable {ad : Nat -> Option ca} {b : Nat} {σ : cb} {H : Heap} {aw : Env} {R : e9}
theorem Xg {e : V} {Q : cb -> Heap -> Prop} (h : Op ad b R.t1 (gL nN (some R.aF) e) (gM σ (some R.aF) e) H [] (fun a7 H' _ => Q a7 H')) (hs : Fits aw σ) (hb : b <= H.length) :
  ∃ dI H' low' a7, R.step (cK ad) e ⟨[], aw, H, H.length, none⟩ = some ⟨[], dI, H', low', none⟩ /\ Fits dI a7 /\ b <= low' /\ b <= H'.length /\ Q a7 H' := by
 obtain ⟨pw, mo, ah, e2, b5⟩ := Aj sH hs H H.length (some R.aF) e
 obtain ⟨l0, dI, H', low', e1, a7, q1, aS, bZ, cR, e8⟩ := h pw mo H.length e2 b5 hb hb
 refine ⟨dI, H', low', a7, ?_, aS, bZ, cR, e8⟩
 unfold e9.step
 rw [ah, q1]
theorem aj6 {Q : cb -> Heap -> Prop} (h : Op ad b R.t1 (gL nN (some R.aF) (.ba [.bool false])) (gM σ (some R.aF) (.ba [.bool false])) H [] (fun a7 H' _ => bX nN a7 R.more = .bool false /\ Q a7 H')) (hs : Fits aw σ) (hb : b <= H.length) {low : Nat} :
  ∃ dI H' low' a7, R.fin (cK ad) ⟨[], aw, H, low, none⟩ = some ⟨[], dI, H', low', none⟩ /\ Fits dI a7 /\ b <= low' /\ b <= H'.length /\ Q a7 H' := by
 obtain ⟨dI, H', low', a7, q1, aS, bZ, cR, e8, hC⟩ := Xg h hs hb
 refine ⟨dI, H', low', a7, ?_, aS, bZ, cR, hC⟩
 unfold e9.fin
 simp only [q1]
 rw [vY sH aS, e8]
theorem aj7 {kv : V × V} {Q : cb -> Heap -> Prop} {li : Nat} (hit : σ R.it = .ptr li 0)
  (h : Op ad b R.t1 (gL nN (some R.aF) (.ba [.bool true, kv.1, kv.2])) (gM σ (some R.aF) (.ba [.bool true, kv.1, kv.2])) H [] (fun dV H1 _ => bX nN dV R.more = .bool true /\ dV R.it = .ptr li 0 /\
    Op ad b R.t2 (gL nN (some R.pair) (.ba [kv.1, kv.2])) (gM dV (some R.pair) (.ba [kv.1, kv.2])) H1 [] (fun kT H2 _ => Q kT H2))) (hs : Fits aw σ) (hb : b <= H.length) {low : Nat} :
  ∃ dI H' low' a7, R.Bc (cK ad) kv ⟨[], aw, H, low, none⟩ = some ⟨[], dI, H', low', none⟩ /\ Fits dI a7 /\ b <= low' /\ b <= H'.length /\ Q a7 H' := by
 obtain ⟨mo, H1, b0, dV, q1, aS, bZ, cR, e8, hC, nM⟩ := Xg h hs hb
 obtain ⟨Vh, Aq, ah, e2, b5⟩ := Aj sH aS H1 b0 (some R.pair) (.ba [kv.1, kv.2])
 obtain ⟨l0, dI, H', low', e1, a7, bG, ch, eL, gq, iB⟩ := nM Vh Aq b0 e2 b5 bZ cR
 refine ⟨dI, H', low', a7, ?_, ch, eL, gq, iB⟩
 unfold e9.Bc
 simp only [q1]
 rw [vY sH aS, e8]
 have e : dN (bJ mo R.it) (bJ aw R.it) = true := by rw [aS, hs, hC, hit]; simp [dN]
 simp only [e, if_true, ah, bG]
end
section
variable {C : Ctx} {fid : Nat -> Nat} {vars : List Nat} {N : Nat} {ad : Nat -> Option ca}
theorem c1.yT (cC : C.P.follows .mixedOrders = true) (bx : eR C fid) (bj : gx C fid (cK ad)) {a d : Code} {A B : cm} (hc : C.code vars N a = some A) {st ar : au} {x : X} {Out : X -> au -> Prop} (he : Abs.dO ad (.seq A B) st = some (x, ar))
  (k : ∀ s, Abs.dO ad B s = some (x, ar) -> c1 C fid vars N d s Out) (dZ : x ≠ .normal -> Out x ar) : c1 C fid vars N (.seq a d) st Out := by
 rw [jD] at he
 cases hA : Abs.dO ad A st with
 | none => rw [hA] at he; cases he
 | some p =>
   obtain ⟨y, s⟩ := p
   rw [hA] at he
   refine c1.seq (c1.dO cC bx bj hc hA) (fun s1 h1 => ?_) fun aj8 s1 hy h1 => ?_
   · obtain ⟨ah, rfl⟩ := h1
     subst ah
     exact k s1 he
   · obtain ⟨rfl, rfl⟩ := h1
     cases aj8 with
     | normal => exact absurd rfl hy
     | exit i => cases he; exact dZ (by simp)
     | ret => cases he; exact dZ (by simp)
end
end Go.Abs
