/- A range over a map: the entries come in whatever order; the executor reckons every order, and the machine goes one of these ways. -/
import Derived.Test.YtklgjajhccjbjaaGreatDoorP07
set_option linter.unusedVariables false
set_option linter.unusedSimpArgs false
namespace Go.Abs
open Go
variable {C : Ctx} {fid : Nat → Nat} {w w' : World} {G G' : Gh} {H H' : Heap}

/-- What the code of a range over a map has become. -/
structure RangeA where
  it : Nat
  nx : Nat × Bool
  t1 : List AOper
  more : Opd
  nxt : Nat
  pair : Nat × Bool
  t2 : List AOper
  body : ACode

def RangeA.step (R : RangeA) (call : CallT) (e : V) (st : St) : Option St :=
  match execOps call R.t1 (({ st with tE := [] } : St).put (some R.nx) e) [] with
  | some (st', _) => some { st' with tE := [] }
  | none => none

/-- A round with an entry; the state behind it has its 'low' from this round alone. -/
def RangeA.round (R : RangeA) (call : CallT) (n : Nat) (k v : V) (st : St) : Option St :=
  match R.step call (.tup [.bool true, k, v]) { st with low := st.H.length } with
  | some st1 => match R.more.ev st1.tE st1.vE with
    | .bool true =>
      if eqV (lookupE st1.vE R.it) (lookupE st.vE R.it) = true then
        match execOps call R.t2 (({ st1 with tE := [] } : St).put (some R.pair) (.tup [k, v])) [] with
        | some (st2, _) => match exec call n R.body { st2 with tE := [] } with
          | some (.normal, st3) => some st3
          | some (.exit id, st3) => if id = R.nxt then some st3 else none
          | _ => none
        | none => none
      else none
    | _ => none
  | none => none

def RangeA.fin (R : RangeA) (call : CallT) (st : St) : Option St :=
  match R.step call (.tup [.bool false]) { st with low := st.H.length } with
  | some st1 => match R.more.ev st1.tE st1.vE with
    | .bool false => some st1
    | _ => none
  | none => none

/-- The loop's beginning: the iterator is an object of its own. -/
def rangeStart (it : Nat) (st : St) : St := { st with tE := [], vE := setE st.vE it (.ptr st.H.length 0), H := st.H ++ [.gone] }

section
variable {vars : List Nat} {N : Nat} {call : CallT} {n : Nat}

/-- A region whose first operation is met by hand. -/
theorem region_head {id : Nat} {ops : Array Oper} {o0 : Oper} {os : List Oper} {d0 : Nat} {aops : List AOper} {st1 st' : St} {wr : List Bool} {a : Act} {x : Value} {w1 : World} {G1 : Gh} {Q : Exit → Act → World → Prop} {ro : Option Nat}
    (hC : CtxOk C fid) (hcall : CallOk C fid call) (hops : ops.toList = o0 :: os) (hd : o0.dst = some d0) (hg : o0.guard = none) (hnd : ∀ c, o0.op ≠ .defer c) (hm : mapO (C.oper vars N ops) os = some aops)
    (hrun : (execOp a.eval o0).run C.P w = .ok (.value x) w1) (hR1 : RelSt C fid vars N G1 st1 (a.put (some d0) x) w1) (he : execOps call aops st1 [] = some (st', wr))
    (hQ : ∀ G' a' w', RelSt C fid vars N G' st' a' w' → (∀ m, m ≤ st'.low → Ext G1 w1 G' w' m st1.H.length) → a'.defers = a.defers → Q .normal a' w') :
    (Code.region id ops false).wpIn (FW ro) 0 C.P Q a w := by
  obtain ⟨S, fl, h0, hn, -, hs⟩ := execOps_trace _ _ _ _ _ he
  have hlen : aops.length = os.length := mapO_length _ hm
  have hsz : ops.size = os.length + 1 := by rw [← Array.length_toList, hops]; rfl
  have key : ∀ k j, j + k = os.length → ∀ G2 a1 w2, RelSt C fid vars N G2 (S j) a1 w2 → (∀ m, m ≤ (S j).low → Ext G1 w1 G2 w2 m st1.H.length) → a1.defers = a.defers → st1.H.length ≤ (S j).H.length →
      wpOpsIn (FW ro) 0 C.P ops Q (List.range' (j + 1) k) a1 w2 := by
    intro k
    induction k with
    | zero =>
      intro j hj G2 a1 w2 r1 r2 r3 _
      have e : j = aops.length := by omega
      subst e
      rw [hn] at r1 r2
      exact hQ G2 a1 w2 r1 r2 r3
    | succ k ih =>
      intro j hj G2 a1 w2 r1 r2 r3 r4
      have hjl : j < os.length := by omega
      have ho' : os[j]? = some os[j] := by simp [hjl]
      have ho : ops[j + 1]? = some os[j] := by rw [← Array.getElem?_toList, hops]; simp [hjl]
      have hja : j < aops.length := by omega
      have hao : aops[j]? = some aops[j] := by simp [hja]
      have hok : OperOk C vars N ops os[j] aops[j] := oper_ok (mapO_get _ hm ho' hao)
      have hst := hs j _ hao
      rw [List.range'_succ, wpOpsIn_cons]
      have hfr := hst.fr hcall.fr
      refine op_wp (T := fun _ => True) hC hcall ho hok hst r1.rel (fun _ => .inl rfl) r1.low (fun t _ => r1.env t) (fun x _ => by cases x <;> trivial) (fun _ _ _ _ _ => trivial) r1.size ?_
      intro x w3 G3 p1 p2 p3
      have p1' : RelH C fid G3 (S (j + 1)).H w3 := by
        cases hf : fl j with
        | true => rw [hf] at p1; exact p1
        | false => rw [hf] at p1; rw [hst.still hcall.fr hf]; exact p1
      have hx0 := p2 0 (Nat.zero_le _)
      refine ih (j + 1) (by omega) G3 _ w3 ⟨p1', fun t => ?_, by rw [put_size]; exact r1.size, hfr.bound r1.low⟩ (fun m hm => (r2 m (Nat.le_trans hm hfr.1.low)).trans ((p2 m hm).le (Nat.le_refl _) r4)) (by rw [put_defers]; exact r3)
        (Nat.le_trans r4 hfr.1.len)
      refine env_put (fun d hd => by rw [r1.size]; exact hok.lt d hd) (fun h => p3 t h) (fun h => ?_)
      rw [hst.look hok h]
      exact (r1.env t).ext r1.rel hx0
  refine wpIn_region ?_
  rw [hsz, List.range_eq_range', List.range'_succ, wpOpsIn_cons]
  have ho0 : ops[0]? = some o0 := by rw [← Array.getElem?_toList, hops]; rfl
  refine manual_op ho0 hg hnd hrun ?_
  rw [hd]
  rw [← h0] at hR1
  exact key os.length 0 (by omega) G1 _ w1 hR1 (fun m _ => .refl _ _ _ _) (put_defers _ _ _) (by rw [h0]; exact Nat.le_refl _)

theorem keep_at {m k : Nat} (h : Ext G w G' w' m k) (hR : RelH C fid G H w) {l : Nat} {h0 : Home} (hb : G.β l = some h0) (hl : l < m) : w'.heap[h0.b]? = w.heap[h0.b]? :=
  h.keep h0.b (hR.blk l h0 hb) fun l' h' e1 e2 => .inr (by have := hR.inj l' l h' h0 e1 hb e2; omega)

theorem home_at {m k : Nat} (h : Ext G w G' w' m k) {l : Nat} {h0 : Home} (hb : G.β l = some h0) (ht : h0.tag = 0) : ∃ h', G'.β l = some h' ∧ h'.b = h0.b := by
  obtain ⟨h', e, -, z, mm, -⟩ := h.homes l h0 hb
  exact ⟨h', e, (mm ((z ht).trans ht.symm)).1⟩

theorem gone_at (hR : RelH C fid G H w) {l : Nat} {h : Home} (hb : G.β l = some h) (hl : H[l]? = some .gone) : h.tag = 0 ∧ h.fz = false := by
  obtain ⟨o, ho, hr⟩ := hR.obj l h hb
  rw [hl] at ho; cases ho; exact hr

theorem map_at (hR : RelH C fid G H w) {l : Nat} {h : Home} (hb : G.β l = some h) {ents : List (V × V)} (hl : H[l]? = some (.map ents)) : h.tag = 0 ∧ h.fz = false ∧ ∃ es clk, w.heap[h.b]? = some (.map es clk) ∧
      VRels fid G w (ents.map (·.1)) (es.toList.map (·.key)) ∧ VRels fid G w (ents.map (·.2)) (es.toList.map (·.val)) ∧ Stamps es clk := by
  obtain ⟨o, ho, hr⟩ := hR.obj l h hb
  rw [hl] at ho; cases ho; exact hr

theorem set_same {H : Heap} {l : Nat} {o : AObj} (h : H[l]? = some o) : H.set l o = H := by
  apply List.ext_getElem?
  intro i
  by_cases e : l = i
  · subst e
    have hl : l < H.length := by
      rcases Nat.lt_or_ge l H.length with q | q
      · exact q
      · rw [List.getElem?_eq_none q] at h; cases h
    rw [List.getElem?_set_self hl, h]
  · rw [List.getElem?_set_ne e]

def seenOf (es : Array MapEntry) (d : List Nat) : Array Nat := (d.map fun i => ((es[i]?).map (·.born)).getD 0).toArray

theorem seenOf_push (es : Array MapEntry) (d : List Nat) {i : Nat} {e : MapEntry} (h : es[i]? = some e) : seenOf es (d ++ [i]) = (seenOf es d).push e.born := by
  unfold seenOf
  rw [List.map_append, List.map_cons, List.map_nil, h]
  simp

/-- Where the loop stands: the entries d have been handed out, in this order. -/
structure RI (C : Ctx) (fid : Nat → Nat) (vars : List Nat) (N base li l r bm clk : Nat) (es : Array MapEntry) (ents : List (V × V)) (st : St) (G : Gh) (w : World) (d : List Nat) (s : St) (G1 : Gh) (a1 : Act) (w1 : World) : Prop where
  rel : RelSt C fid vars N G1 s a1 w1
  fr : FrS st { s with low := min st.low li }
  len : li < s.H.length
  ext : ∀ m, m ≤ min st.low li → Ext G w G1 w1 m st.H.length
  marks : MarksOk G1 w1 base a1.defers
  hi : ∃ h, G1.β li = some h ∧ h.b = r
  hm : ∃ h, G1.β l = some h ∧ h.b = bm
  gone : s.H[li]? = some .gone
  mp : s.H[l]? = some (.map ents)
  iter : w1.heap[r]? = some (.mapIter (some bm) clk (seenOf es d) clk)
  map : w1.heap[bm]? = some (.map es clk)

/-- The world goes on without touching the iterator and the map. -/
theorem RI.on {base li l r bm clk : Nat} {es : Array MapEntry} {ents : List (V × V)} {st : St} {d : List Nat} {s s' : St} {G1 G2 : Gh} {a1 a2 : Act} {w1 w2 : World}
    (h : RI C fid vars N base li l r bm clk es ents st G w d s G1 a1 w1) (hll : l < li) (hli : li ≤ st.H.length) (hR : RelSt C fid vars N G2 s' a2 w2) (hE : ∀ m, m ≤ s'.low → Ext G1 w1 G2 w2 m s.H.length) (hlow : li < s'.low) (hF : Fr s.H s.H.length s'.H s'.low) (hro : s'.ro = s.ro)
    (hd : MarksOk G2 w2 base a2.defers) : RI C fid vars N base li l r bm clk es ents st G w d s' G2 a2 w2 := by
  obtain ⟨h1, e1, q1⟩ := h.hi
  obtain ⟨h2, e2, q2⟩ := h.hm
  have g1 := gone_at h.rel.rel e1 h.gone
  have g2 := map_at h.rel.rel e2 h.mp
  have hE' := hE _ (Nat.le_refl _)
  have hfl := h.fr.1.len
  refine ⟨hR, ⟨⟨Nat.le_trans h.fr.1.len hF.len, Nat.min_le_left _ _, fun x hx => ?_⟩, hro.trans h.fr.2⟩, Nat.lt_of_lt_of_le h.len hF.len, fun m hm => ?_, hd, ?_, ?_, ?_, ?_, ?_, ?_⟩
  · have hx' : x < min st.low li := hx
    exact (hF.same x (by omega)).trans (h.fr.1.same x hx)
  · exact (h.ext m hm).trans ((hE m (by omega)).le (Nat.le_refl _) hfl)
  · obtain ⟨h', e', q'⟩ := home_at hE' e1 g1.1; exact ⟨h', e', q'.trans q1⟩
  · obtain ⟨h', e', q'⟩ := home_at hE' e2 g2.1; exact ⟨h', e', q'.trans q2⟩
  · rw [hF.same li hlow]; exact h.gone
  · rw [hF.same l (by omega)]; exact h.mp
  · have := keep_at hE' h.rel.rel e1 hlow
    rw [q1] at this; rw [this]; exact h.iter
  · have := keep_at hE' h.rel.rel e2 (by omega)
    rw [q2] at this; rw [this]; exact h.map

theorem RelSt.reset {st : St} {a : Act} (h : RelSt C fid vars N G st a w) : RelSt C fid vars N G { st with tE := [], low := st.H.length } a w :=
  ⟨h.rel, h.clear.env, h.size, Nat.le_refl _⟩

theorem RelSt.lowTo {st : St} {a : Act} (h : RelSt C fid vars N G st a w) {k : Nat} (hk : k ≤ st.H.length) : RelSt C fid vars N G { st with low := k } a w := ⟨h.rel, h.env, h.size, hk⟩

theorem leftOf_nil {es : Array MapEntry} {d : List Nat} (hn : (es.toList.map (·.born)).Nodup) (hlt : ∀ i ∈ d, i < es.size) (h : (leftOf es (seenOf es d)).size = 0) : ∀ i, i < es.size → i ∈ d := by
  intro i hi
  have h0 : leftOf es (seenOf es d) = #[] := Array.eq_empty_of_size_eq_zero h
  unfold leftOf at h0
  rw [Array.filter_eq_empty_iff] at h0
  have h1 := h0 es[i] (by simp)
  simp only [Bool.not_eq_true', Bool.not_eq_false] at h1
  rw [Array.contains_iff_mem] at h1
  unfold seenOf at h1
  simp only [List.mem_toArray, List.mem_map] at h1
  obtain ⟨j, hj, hb⟩ := h1
  have hjl := hlt j hj
  simp only [Array.getElem?_eq_getElem hjl, Option.map_some, Option.getD_some] at hb
  have : j = i := by
    have hjl' : j < (es.toList.map (·.born)).length := by simpa using hjl
    have hil' : i < (es.toList.map (·.born)).length := by simpa using hi
    have hp := List.pairwise_iff_getElem.1 hn
    rcases Nat.lt_trichotomy j i with q | q | q
    · exact absurd (by simpa using hb) (hp j i hjl' hil' q)
    · exact q
    · exact absurd (by simpa using hb.symm) (hp i j hil' hjl' q)
  rw [← this]; exact hj

theorem leftOf_next {es : Array MapEntry} {d : List Nat} {e : MapEntry} (he : e ∈ (leftOf es (seenOf es d)).toList) : ∃ i, es[i]? = some e ∧ i ∉ d ∧ (leftOf es (seenOf es (d ++ [i]))).size < (leftOf es (seenOf es d)).size := by
  have he' : e ∈ es.toList ∧ (seenOf es d).contains e.born = false := by
    unfold leftOf at he
    simpa using he
  obtain ⟨i, hi⟩ := List.mem_iff_getElem?.1 he'.1
  rw [Array.getElem?_toList] at hi
  refine ⟨i, hi, fun hid => ?_, ?_⟩
  · have : (seenOf es d).contains e.born = true := by
      rw [Array.contains_iff_mem]
      unfold seenOf
      simp only [List.mem_toArray, List.mem_map]
      exact ⟨i, hid, by rw [hi]; rfl⟩
    rw [this] at he'; cases he'.2
  · rw [seenOf_push es d hi]
    unfold leftOf
    have key : ∀ p : MapEntry → Bool, (es.filter p).size = (es.toList.filter p).length := fun p => by rw [← Array.length_toList, Array.toList_filter]
    rw [key, key]
    refine filter_lt _ _ (fun x hx => ?_) e ?_ ?_ _ he'.1
    · simp only [Array.contains_push, Bool.not_eq_true', Bool.or_eq_false_iff] at hx ⊢
      simp at hx ⊢
      exact hx.1
    · rw [he'.2]; rfl
    · simp

theorem range_map_wp (hmix : C.P.follows .mixedOrders = true) (hC : CtxOk C fid) (hcall : CallOk C fid call) {i0 i1 i2 : Nat} {om o0 on oe : Oper} {ops0 ops1 ops2 : Array Oper} {os1 os2 : List Oper}
    {m mt it nx more pair out nxt : Nat} {tm tk tv : TypeId} {body : Code} {R : RangeA}
    (h0 : ops0.toList = [om, o0]) (hmop : om.op = .move (.tmp m)) (hmd : om.dst = some mt) (hmg : om.guard = none) (hmt : mt < N) (hvmt : vars.contains mt = false) (h0op : o0.op = .range tm (.tmp mt)) (h0d : o0.dst = some it) (h0g : o0.guard = none) (hit : it < N) (htm : C.P.underlying tm = some (.map tk tv))
    (h1 : ops1.toList = on :: os1) (hnop : on.op = .next (.tmp it) false) (hnd : on.dst = some nx) (hng : on.guard = none) (hnx : nx < N)
    (h2 : ops2.toList = oe :: os2) (heop : oe.op = .entry (.tmp it)) (hed : oe.dst = some pair) (heg : oe.guard = none) (hpr : pair < N)
    (hvit : vars.contains it = true) (hvm : vars.contains m = true) (hRnx : R.nx = (nx, vars.contains nx)) (hRpair : R.pair = (pair, vars.contains pair))
    (ht1 : mapO (C.oper vars N ops1) os1 = some R.t1) (ht2 : mapO (C.oper vars N ops2) os2 = some R.t2) (hmore : C.opd vars (.tmp more) = some R.more) (hbody : C.code vars N body = some R.body) (hnxt : R.nxt = nxt) (hRit : R.it = it)
    {st : St} {l : Nat} {ents : List (V × V)} (hml : lookupE st.vE m = .map l) (hmp : st.H[l]? = some (.map ents)) (Inv : List Nat → St → Prop) (Out : St → Prop)
    (hI0 : Inv [] (rangeStart it st)) (hIit : ∀ d s, Inv d s → lookupE s.vE it = .ptr st.H.length 0)
    (hround : ∀ d s, Inv d s → ∀ i kv, i ∉ d → ents[i]? = some kv → ∃ s', R.round call n kv.1 kv.2 s = some s' ∧ st.H.length < s'.low ∧ Inv (d ++ [i]) s')
    (hfin : ∀ d s, Inv d s → d.Nodup → (∀ i, i ∈ d ↔ i < ents.length) → ∃ s', R.fin call s = some s' ∧ st.H.length < s'.low ∧ Out s')
    {a : Act} {ro : Option Nat} {base : Nat} {Q : Exit → Act → World → Prop} (hR : RelSt C fid vars N G st a w) (hro : RoRel G st.ro ro) (hmk : MarksOk G w base a.defers) (hb : base ≤ w.heap.size)
    (hQ : ∀ s' G' a' w', Out s' → FrS st { s' with low := min st.low st.H.length } → Fin C fid vars N base st G w { s' with low := min st.low st.H.length } G' a' w' → Q .normal a' w') :
    (Code.seq (.region i0 ops0 false) (.block out (.loop (.seq (.region i1 ops1 false) (.seq (.cond (.tmp more) .skip (.exit out)) (.block nxt (.seq (.region i2 ops2 false) body))))))).wpIn (FW ro) 0 C.P Q a w := by
  -- the map
  have hvl := hR.env m
  rw [show lookS vars st m = lookupE st.vE m by unfold lookS; rw [if_pos hvm], hml] at hvl
  obtain ⟨hmh, emh, tmh, xmh⟩ := hvl.mapInv
  obtain ⟨-, -, es, clk, hes, hks, hvs, hst⟩ := map_at hR.rel emh hmp
  have hll : l < st.H.length := hR.rel.lt emh
  have hrunm : (execOp a.eval om).run C.P w = .ok (.value (.map (some hmh.b))) w := by
    unfold execOp
    rw [hmop]
    have e : a.eval (.tmp m) = .map (some hmh.b) := xmh
    simp only [e, Sem.run_pure]
  have hrun0 : (execOp (a.put (some mt) (.map (some hmh.b))).eval o0).run C.P w = .ok (.value (.pointer (some ⟨w.heap.size, 0, none⟩))) (w.alloc (.mapIter (some hmh.b) clk #[] clk)) := by
    unfold execOp
    rw [h0op]
    have e : (a.put (some mt) (.map (some hmh.b))).eval (.tmp mt) = .map (some hmh.b) := by
      have := getD_put a mt (.map (some hmh.b)) mt (by rw [hR.size]; exact hmt)
      rw [if_pos rfl] at this
      exact this
    simp only [e, Sem.run_bind, run_range_map w tm tk tv hmh.b es clk htm hes, Result.andThen_ok, Sem.run_pure]
  have hlens : ents.length = es.size := by
    have := hks.length
    simpa using this.symm
  -- the iterator
  have hpush := hR.rel.push .gone (.mapIter (some hmh.b) clk #[] clk) 0 0 ⟨rfl, rfl⟩
  have hE0 : ∀ m k, k ≤ st.H.length → Ext G w ⟨upd G.β st.H.length ⟨w.heap.size, 0, 0, false⟩, G.I⟩ (w.alloc (.mapIter (some hmh.b) clk #[] clk)) m k := fun m k hk => (Ext.push hR.rel (.mapIter (some hmh.b) clk #[] clk) 0 0 m).le (Nat.le_refl _) hk
  have hmv : RelSt C fid vars N G { st with tE := [(mt, .map l)] } (a.put (some mt) (.map (some hmh.b))) w := by
    have := hR.clear.put hmt (v := .map l) (x := .map (some hmh.b)) (.map l hmh emh tmh)
    rw [hvmt] at this
    exact this
  have hbase : RelSt C fid vars N ⟨upd G.β st.H.length ⟨w.heap.size, 0, 0, false⟩, G.I⟩ { st with tE := [(mt, .map l)], H := st.H ++ [.gone] } (a.put (some mt) (.map (some hmh.b))) (w.alloc (.mapIter (some hmh.b) clk #[] clk)) :=
    ⟨hpush, fun t => (hmv.env t).ext hR.rel (hE0 0 0 (Nat.zero_le _)), hmv.size, by have := hR.low; simp only [List.length_append, List.length_cons, List.length_nil]; omega⟩
  have hs0 : RelSt C fid vars N ⟨upd G.β st.H.length ⟨w.heap.size, 0, 0, false⟩, G.I⟩ (rangeStart it st) ((a.put (some mt) (.map (some hmh.b))).put (some it) (.pointer (some ⟨w.heap.size, 0, none⟩))) (w.alloc (.mapIter (some hmh.b) clk #[] clk)) := by
    have := hbase.put hit (v := .ptr st.H.length 0) (x := .pointer (some ⟨w.heap.size, 0, none⟩)) (.ptr st.H.length 0 ⟨w.heap.size, 0, 0, false⟩ (upd_same _ _ _) rfl)
    rw [hvit] at this
    exact this.clear
  suffices Hgo : ∀ G' a' w', RelSt C fid vars N G' (rangeStart it st) a' w' → (∀ m, m ≤ (rangeStart it st).H.length → Ext ⟨upd G.β st.H.length ⟨w.heap.size, 0, 0, false⟩, G.I⟩ (w.alloc (.mapIter (some hmh.b) clk #[] clk)) G' w' m (rangeStart it st).H.length) →
      a'.defers = a.defers → (Code.block out (.loop (.seq (.region i1 ops1 false) (.seq (.cond (.tmp more) .skip (.exit out)) (.block nxt (.seq (.region i2 ops2 false) body)))))).wpIn (FW ro) 0 C.P Q a' w' by
    refine wpIn_seq (wpIn_region ?_)
    have hsz2 : ops0.size = 2 := by rw [← Array.length_toList, h0]; rfl
    rw [hsz2]
    show wpOpsIn _ _ _ _ _ [0, 1] a w
    rw [wpOpsIn_cons]
    refine manual_op (o := om) (by rw [← Array.getElem?_toList, h0]; rfl) hmg (by rw [hmop]; simp) hrunm ?_
    rw [wpOpsIn_cons, hmd]
    refine manual_op (o := o0) (by rw [← Array.getElem?_toList, h0]; rfl) h0g (by rw [h0op]; simp) hrun0 ?_
    rw [h0d]
    exact Hgo _ _ _ hs0 (fun m _ => .refl _ _ _ _) (by rw [put_defers, put_defers])
  intro G' a' w' r1 r2 r3
  refine wpIn_block (wpIn_iter (fun k a1 w1 => ∃ d s G1, Inv d s ∧ d.Nodup ∧ (∀ i ∈ d, i < ents.length) ∧ (leftOf es (seenOf es d)).size < k ∧ RI C fid vars N base st.H.length l w.heap.size hmh.b clk es ents st G w d s G1 a1 w1) ?_
    (j := (leftOf es (seenOf es [])).size + 1) ?_)
  · rintro k a1 w1 ⟨d, s, G1, hI, hnd', hdl, hk, R1⟩
    obtain ⟨k', rfl⟩ : ∃ k', k = k' + 1 := ⟨k - 1, by omega⟩
    refine ⟨k', rfl, ?_⟩
    obtain ⟨h3, e3, q3⟩ := R1.hi
    obtain ⟨h4, e4, q4⟩ := R1.hm
    have hitv : a1.eval (.tmp it) = .pointer (some ⟨w.heap.size, 0, none⟩) := by
      have := R1.rel.env it
      rw [show lookS vars s it = lookupE s.vE it by unfold lookS; rw [if_pos hvit], hIit d s hI] at this
      obtain ⟨h5, e5, -, x5⟩ := this.ptrInv
      rw [e3] at e5; cases e5
      rw [q3] at x5; exact x5
    have hn1 : ∀ c, on.op ≠ .defer c := by rw [hnop]; simp
    have hn2 : ∀ c, oe.op ≠ .defer c := by rw [heop]; simp
    rcases next_at (P := C.P) on.type R1.iter R1.map hst.1 (Nat.le_refl _) with ⟨hsz, hrun⟩ | ⟨e, he, w2, hw2, hos2, hout2, hrun⟩
    · -- no entry is left
      have hall := leftOf_nil hst.2 (fun i hi => by rw [← hlens]; exact hdl i hi) hsz
      obtain ⟨s', hf, hlow, hout⟩ := hfin d s hI hnd' fun i => ⟨hdl i, fun hi => hall i (by rw [← hlens]; exact hi)⟩
      unfold RangeA.fin RangeA.step at hf
      split at hf
      · rename_i s1 hs1
        split at hs1
        · rename_i s1' wr hex
          cases hs1
          split at hf
          · rename_i hmv
            cases hf
            have hrun' : (execOp a1.eval on).run C.P w1 = .ok (.value (.tuple #[.bool false])) w1 := by
              unfold execOp
              rw [hnop]
              simp only [hitv, Sem.run_bind, hrun, Result.andThen_ok, Sem.run_pure]
            have hrel1 : RelSt C fid vars N G1 (({ s with tE := [], low := s.H.length } : St).put (some R.nx) (.tup [.bool false])) (a1.put (some nx) (.tuple #[.bool false])) w1 := by
              rw [hRnx]
              exact R1.rel.reset.put hnx (.tup _ _ (.cons _ _ _ _ (.p _ _ (.bool false)) .nil))
            refine wpIn_seq (region_head hC hcall h1 hnd hng hn1 ht1 hrun' hrel1 hex fun G2 a2 w3 r4 r5 r6 => ?_)
            have hpH := put_H ({ s with tE := [], low := s.H.length } : St) (some R.nx) (.tup [.bool false])
            have hF := execOps_fr hcall.fr _ _ _ _ _ (by rw [hpH.1, hpH.2.1]; exact Nat.le_refl _) hex
            have R2 : RI C fid vars N base st.H.length l w.heap.size hmh.b clk es ents st G w d { s1' with tE := [] } G2 a2 w3 := by
              refine R1.on hll (Nat.le_refl _) r4.clear (fun m hm => ?_) hlow ?_ ?_ ?_
              · have := r5 m hm
                rw [hpH.1] at this; exact this
              · have := hF.1
                rw [hpH.1, hpH.2.1] at this; exact this
              · exact hF.2.trans hpH.2.2
              · have := R1.marks.ext (r5 0 (Nat.zero_le _))
                rw [r6]; exact this
            have hv := opd_rel hC R2.rel (.tmp more) R.more hmore
            rw [hmv] at hv
            refine wpIn_seq (wpIn_cond_false hv.boolInv (wpIn_exit ?_))
            show (if out = out then Q .normal a2 w3 else _)
            rw [if_pos rfl]
            exact hQ _ G2 a2 w3 hout R2.fr ⟨⟨R2.rel.rel, R2.rel.env, R2.rel.size, Nat.le_trans (Nat.min_le_right _ _) (Nat.le_of_lt R2.len)⟩, R2.ext, R2.marks⟩
          · cases hf
        · cases hs1
      · cases hf
    · -- an entry
      obtain ⟨i, hi, hid, hless⟩ := leftOf_next he
      have hil : i < es.size := by
        rcases Nat.lt_or_ge i es.size with q | q
        · exact q
        · rw [Array.getElem?_eq_none q] at hi; cases hi
      obtain ⟨tg4, fz4, es', clk', hes', hks', hvs', -⟩ := map_at R1.rel.rel e4 R1.mp
      rw [q4, R1.map] at hes'
      cases hes'
      obtain ⟨tg3, fz3⟩ := gone_at R1.rel.rel e3 R1.gone
      obtain ⟨kv, hkv⟩ : ∃ kv, ents[i]? = some kv := ⟨ents[i]'(by omega), by simp⟩
      have hkr : VRel fid G1 w1 kv.1 e.key := by
        obtain ⟨x, hx, hr⟩ := hks'.get (i := i) (v := kv.1) (by rw [List.getElem?_map, hkv]; rfl)
        rw [List.getElem?_map, Array.getElem?_toList, hi] at hx
        cases hx; exact hr
      have hvr : VRel fid G1 w1 kv.2 e.val := by
        obtain ⟨x, hx, hr⟩ := hvs'.get (i := i) (v := kv.2) (by rw [List.getElem?_map, hkv]; rfl)
        rw [List.getElem?_map, Array.getElem?_toList, hi] at hx
        cases hx; exact hr
      obtain ⟨s', hf, hlow, hI'⟩ := hround d s hI i kv hid hkv
      -- the world behind the step
      have hT := turn R1.rel.rel e3 fz3 (.mapIter (some hmh.b) clk ((seenOf es d).push e.born) clk) .gone fun _ _ _ => ⟨tg3, fz3⟩
      rw [set_same R1.gone] at hT
      have hh2 : w2.heap = (w1.putObj h3.b (.mapIter (some hmh.b) clk ((seenOf es d).push e.born) clk)).heap := by rw [hw2, q3]; rfl
      have hrelW : RelH C fid G1 s.H w2 := hT.1.sameHeap hh2
      have hextW : ∀ m, m ≤ st.H.length → Ext G1 w1 G1 w2 m s.H.length := fun m hm => (hT.2.le hm (Nat.le_refl _)).trans (.sameHeap hh2 hos2 hout2 _ _)
      have hr2 : w2.heap[w.heap.size]? = some (.mapIter (some hmh.b) clk ((seenOf es d).push e.born) clk) := by
        rw [hh2, ← q3]; exact World.putObj_heap_same (R1.rel.rel.blk _ _ e3)
      have hb2 : w2.heap[hmh.b]? = some (.map es clk) := by
        rw [hh2, World.putObj_heap_other (fun q => ?_)]
        · exact R1.map
        · have := R1.rel.rel.inj _ _ _ _ e3 e4 (by rw [q4, ← q]); omega
      have hrelS : RelSt C fid vars N G1 s a1 w2 := ⟨hrelW, fun t => (R1.rel.env t).ext R1.rel.rel (hextW 0 (Nat.zero_le _)), R1.rel.size, R1.rel.low⟩
      have hEz := hextW 0 (Nat.zero_le _)
      have RW : RI C fid vars N base st.H.length l w.heap.size hmh.b clk es ents st G w (d ++ [i]) s G1 a1 w2 :=
        ⟨hrelS, R1.fr, R1.len, fun m hm => (R1.ext m hm).trans ((hextW m (by omega)).le (Nat.le_refl _) R1.fr.1.len), R1.marks.ext hEz, R1.hi, R1.hm, R1.gone, R1.mp, by rw [seenOf_push es d hi]; exact hr2, hb2⟩
      have hkr2 := hkr.ext R1.rel.rel hEz
      have hvr2 := hvr.ext R1.rel.rel hEz
      unfold RangeA.round RangeA.step at hf
      split at hf
      case h_2 => cases hf
      rename_i s1 hs1
      split at hs1
      case h_2 => cases hs1
      rename_i s1' wr hex
      cases hs1
      split at hf
      case h_2 => cases hf
      rename_i hmv
      split at hf
      case isFalse => cases hf
      rename_i hitq
      have hit1 : lookupE s1'.vE it = .ptr st.H.length 0 := by
        have := eqV_eq _ _ hitq
        rw [hRit] at this
        exact this.trans (hIit d s hI)
      split at hf
      case h_2 => cases hf
      rename_i s2 wr2 hex2
      have hrun' : (execOp a1.eval on).run C.P w1 = .ok (.value (.tuple #[.bool true, e.key, e.val])) w2 := by
        unfold execOp
        rw [hnop]
        simp only [hitv, Sem.run_bind, hrun, Result.andThen_ok, Sem.run_pure]
      have hrel1 : RelSt C fid vars N G1 (({ s with tE := [], low := s.H.length } : St).put (some R.nx) (.tup [.bool true, kv.1, kv.2])) (a1.put (some nx) (.tuple #[.bool true, e.key, e.val])) w2 := by
        rw [hRnx]
        exact hrelS.reset.put hnx (.tup _ _ (.cons _ _ _ _ (.p _ _ (.bool true)) (.cons _ _ _ _ hkr2 (.cons _ _ _ _ hvr2 .nil))))
      have hpH := put_H ({ s with tE := [], low := s.H.length } : St) (some R.nx) (.tup [.bool true, kv.1, kv.2])
      have hF := execOps_fr hcall.fr _ _ _ _ _ (by rw [hpH.1, hpH.2.1]; exact Nat.le_refl _) hex
      have hpH2 := put_H ({ s1' with tE := [] } : St) (some R.pair) (.tup [kv.1, kv.2])
      have hlow1 : s1'.low ≤ s1'.H.length := hF.bound (by rw [hpH.1, hpH.2.1]; exact Nat.le_refl _)
      have hF2 := execOps_fr hcall.fr _ _ _ _ _ (by rw [hpH2.1, hpH2.2.1]; exact hlow1) hex2
      have hlow2 : s2.low ≤ s2.H.length := hF2.bound (by rw [hpH2.1, hpH2.2.1]; exact hlow1)
      -- the body's end
      obtain ⟨x3, s3, hex3, hx3, hs3⟩ : ∃ x3 s3, exec call n R.body { s2 with tE := [] } = some (x3, s3) ∧ (x3 = .normal ∨ x3 = .exit nxt) ∧ s3 = s' := by
        split at hf
        · rename_i s3 hb3; cases hf; exact ⟨_, _, hb3, .inl rfl, rfl⟩
        · rename_i id s3 hb3
          split at hf
          · rename_i hidn; cases hf; exact ⟨_, _, hb3, .inr (by rw [hidn, hnxt]), rfl⟩
          · cases hf
        · cases hf
      subst hs3
      have hF3 := exec_fr hcall.fr n _ _ _ _ (show ({ s2 with tE := [] } : St).low ≤ ({ s2 with tE := [] } : St).H.length from hlow2) hex3
      have l32 : s3.low ≤ s2.low := hF3.1.low
      have l21 : s2.low ≤ s1'.low := by have := hF2.1.low; rw [hpH2.2.1] at this; exact this
      refine wpIn_seq (region_head hC hcall h1 hnd hng hn1 ht1 hrun' hrel1 hex fun G2 a2 w3 r4 r5 r6 => ?_)
      have R2 : RI C fid vars N base st.H.length l w.heap.size hmh.b clk es ents st G w (d ++ [i]) { s1' with tE := [] } G2 a2 w3 := by
        refine RW.on hll (Nat.le_refl _) r4.clear (fun m hm => ?_) (by show st.H.length < s1'.low; omega) ?_ ?_ ?_
        · have := r5 m hm
          rw [hpH.1] at this; exact this
        · have := hF.1
          rw [hpH.1, hpH.2.1] at this; exact this
        · exact hF.2.trans hpH.2.2
        · have := RW.marks.ext (r5 0 (Nat.zero_le _))
          rw [r6]; exact this
      have hv := opd_rel hC R2.rel (.tmp more) R.more hmore
      rw [hmv] at hv
      refine wpIn_seq (wpIn_cond_true hv.boolInv (wpIn_skip ?_))
      show (Code.block nxt (.seq (.region i2 ops2 false) body)).wpIn (FW ro) 0 C.P _ a2 w3
      refine wpIn_block (wpIn_seq ?_)
      -- the entry is read again
      have hitv2 : a2.eval (.tmp it) = .pointer (some ⟨w.heap.size, 0, none⟩) := by
        have := R2.rel.env it
        rw [show lookS vars { s1' with tE := [] } it = lookupE s1'.vE it by unfold lookS; rw [if_pos hvit], hit1] at this
        obtain ⟨h5, e5, -, x5⟩ := this.ptrInv
        obtain ⟨h6, e6, q6⟩ := R2.hi
        rw [e6] at e5; cases e5
        rw [q6] at x5; exact x5
      have hrun2 : (execOp a2.eval oe).run C.P w3 = .ok (.value (.tuple #[e.key, e.val])) w3 := by
        have hit3 := R2.iter
        rw [seenOf_push es d hi] at hit3
        have hent := entry_at (P := C.P) hit3 R2.map (by rw [← Array.getElem?_toList] at hi; exact List.mem_of_getElem? hi) hst.2
        unfold execOp
        rw [heop]
        simp only [hitv2, Sem.run_bind, hent, Result.andThen_ok, Sem.run_pure]
      have hEr := r5 0 (Nat.zero_le _)
      have hrel2 : RelSt C fid vars N G2 (({ s1' with tE := [] } : St).put (some R.pair) (.tup [kv.1, kv.2])) (a2.put (some pair) (.tuple #[e.key, e.val])) w3 := by
        rw [hRpair]
        exact R2.rel.put hpr (.tup _ _ (.cons _ _ _ _ (hkr2.ext hrelW hEr) (.cons _ _ _ _ (hvr2.ext hrelW hEr) .nil)))
      refine region_head hC hcall h2 hed heg hn2 ht2 hrun2 hrel2 hex2 fun G3 a3 w4 r7 r8 r9 => ?_
      have R3 : RI C fid vars N base st.H.length l w.heap.size hmh.b clk es ents st G w (d ++ [i]) { s2 with tE := [] } G3 a3 w4 := by
        refine R2.on hll (Nat.le_refl _) r7.clear (fun m hm => ?_) (by show st.H.length < s2.low; omega) ?_ ?_ ?_
        · have := r8 m hm
          rw [hpH2.1] at this; exact this
        · have := hF2.1
          rw [hpH2.1, hpH2.2.1] at this
          exact ⟨this.len, Nat.le_trans this.low hlow1, this.same⟩
        · exact hF2.2.trans hpH2.2.2
        · have := R2.marks.ext (r8 0 (Nat.zero_le _))
          rw [r9]; exact this
      show body.wpIn (FW ro) 0 C.P _ a3 w4
      refine code_ok (n := n) hmix hC hcall body _ _ _ hbody _ _ _ hex3 G3 a3 w4 ro base _ R3.rel ?_ R3.marks (Nat.le_trans hb (R3.ext 0 (Nat.zero_le _)).size) fun G4 a4 w5 F => ?_
      · have h7 : ({ s2 with tE := [] } : St).ro = st.ro := R3.fr.2
        rw [h7]
        exact hro.ext (R3.ext 0 (Nat.zero_le _))
      have R4 : RI C fid vars N base st.H.length l w.heap.size hmh.b clk es ents st G w (d ++ [i]) s3 G4 a4 w5 :=
        R3.on hll (Nat.le_refl _) F.rel F.ext hlow ⟨hF3.1.len, Nat.le_trans hF3.1.low hlow2, hF3.1.same⟩ hF3.2 F.marks
      have hnext : ∃ d s G1, Inv d s ∧ d.Nodup ∧ (∀ i ∈ d, i < ents.length) ∧ (leftOf es (seenOf es d)).size < k' ∧ RI C fid vars N base st.H.length l w.heap.size hmh.b clk es ents st G w d s G1 a4 w5 := by
        refine ⟨d ++ [i], s3, G4, hI', List.nodup_append.2 ⟨hnd', by simp, fun x hx y hy => ?_⟩, fun x hx => ?_, by omega, R4⟩
        · simp only [List.mem_cons, List.not_mem_nil, or_false] at hy
          subst hy
          exact fun q => hid (q ▸ hx)
        · rcases List.mem_append.1 hx with q | q
          · exact hdl x q
          · simp only [List.mem_cons, List.not_mem_nil, or_false] at q
            subst q; omega
      rcases hx3 with rfl | rfl
      · exact hnext
      · show (if nxt = nxt then _ else _)
        rw [if_pos rfl]
        exact hnext
  · have hsl : (rangeStart it st).H.length = st.H.length + 1 := by unfold rangeStart; simp
    have e1 := r2 (st.H.length + 1) (by show st.H.length + 1 ≤ (rangeStart it st).H.length; rw [hsl]; exact Nat.le_refl _)
    have e0 := hE0 0 st.H.length (Nat.le_refl _)
    have hl0 : (⟨upd G.β st.H.length ⟨w.heap.size, 0, 0, false⟩, G.I⟩ : Gh).β l = some hmh := by
      show upd G.β st.H.length ⟨w.heap.size, 0, 0, false⟩ l = some hmh
      rw [upd_other (by omega)]; exact emh
    have hi0 : (⟨upd G.β st.H.length ⟨w.heap.size, 0, 0, false⟩, G.I⟩ : Gh).β st.H.length = some ⟨w.heap.size, 0, 0, false⟩ := upd_same _ _ _
    refine ⟨[], rangeStart it st, G', hI0, List.nodup_nil, fun i hi => (by cases hi), Nat.lt_succ_self _, ⟨⟨r1.rel, r1.env, r1.size, ?_⟩, ⟨⟨?_, Nat.min_le_left _ _, fun x hx => ?_⟩, rfl⟩, ?_, fun m hm => ?_, ?_, ?_, ?_, ?_, ?_, ?_, ?_⟩⟩
    · exact hs0.low
    · show st.H.length ≤ (rangeStart it st).H.length
      omega
    · have hx' : x < min st.low st.H.length := hx
      show (st.H ++ [AObj.gone])[x]? = _
      rw [List.getElem?_append_left (by omega)]
    · omega
    · exact (hE0 m st.H.length (Nat.le_refl _)).trans ((r2 m (by show m ≤ (rangeStart it st).H.length; omega)).le (Nat.le_refl _) (by show st.H.length ≤ (rangeStart it st).H.length; omega))
    · rw [r3]
      exact (hmk.ext e0).ext e1
    · exact home_at e1 hi0 rfl
    · exact home_at e1 hl0 tmh
    · show (st.H ++ [AObj.gone])[st.H.length]? = _
      simp
    · show (st.H ++ [AObj.gone])[l]? = _
      rw [List.getElem?_append_left hll]; exact hmp
    · have := keep_at e1 hs0.rel hi0 (Nat.lt_succ_self _)
      rw [this]; exact alloc_new _ _
    · have := keep_at e1 hs0.rel hl0 (by omega)
      rw [this, alloc_old (hR.rel.blk _ _ emh)]; exact hes

theorem put_vE_low (st : St) (d : Option (Nat × Bool)) (v : V) : (st.put d v).low = st.low := (put_H st d v).2.1

end
end Go.Abs
/- Bodies with ranges over maps: a piece of code has several outcomes, one for each order; whatever holds of all of them holds of the machine. -/
namespace Go.Abs
open Go
variable {C : Ctx} {fid : Nat → Nat} {w w' : World} {G G' : Gh} {H H' : Heap}

section
variable {vars : List Nat} {N : Nat} {call : CallT} {n : Nat}

/-- From a state of the executor the machine comes to one of the outcomes. -/
def Runs (C : Ctx) (fid : Nat → Nat) (vars : List Nat) (N : Nat) (c : Code) (st : St) (Out : X → St → Prop) : Prop :=
  ∀ (G : Gh) (a : Act) (w : World) (ro : Option Nat) (base : Nat) (Q : Exit → Act → World → Prop), RelSt C fid vars N G st a w → RoRel G st.ro ro → MarksOk G w base a.defers → base ≤ w.heap.size →
    (∀ x st' G' a' w', Out x st' → FrS st st' → Fin C fid vars N base st G w st' G' a' w' → Q (toExit x) a' w') → c.wpIn (FW ro) 0 C.P Q a w

theorem Runs.exec (hmix : C.P.follows .mixedOrders = true) (hC : CtxOk C fid) (hcall : CallOk C fid call) {c : Code} {ac : ACode} (hc : C.code vars N c = some ac) {st st' : St} {x : X} (he : Abs.exec call n ac st = some (x, st')) :
    Runs C fid vars N c st (fun y s => y = x ∧ s = st') := fun G a w ro base Q hR hro hmk hb hQ =>
  code_ok (n := n) hmix hC hcall c _ _ _ hc _ _ _ he G a w ro base Q hR hro hmk hb fun G' a' w' F => hQ x st' G' a' w' ⟨rfl, rfl⟩ (exec_fr hcall.fr n _ _ _ _ hR.low he) F

theorem Runs.mono {c : Code} {st : St} {Out Out' : X → St → Prop} (h : Runs C fid vars N c st Out) (hm : ∀ x s, Out x s → Out' x s) : Runs C fid vars N c st Out' := fun G a w ro base Q hR hro hmk hb hQ =>
  h G a w ro base Q hR hro hmk hb fun x s G' a' w' ho => hQ x s G' a' w' (hm x s ho)

theorem Runs.seq {c d : Code} {st : St} {Out1 Out : X → St → Prop} (h1 : Runs C fid vars N c st Out1) (h2 : ∀ s, Out1 .normal s → Runs C fid vars N d s Out) (h3 : ∀ x s, x ≠ .normal → Out1 x s → Out x s) :
    Runs C fid vars N (.seq c d) st Out := fun G a w ro base Q hR hro hmk hb hQ => by
  refine wpIn_seq (h1 G a w ro base _ hR hro hmk hb fun x s G1 a1 w1 ho hf F => ?_)
  cases x with
  | normal =>
    refine h2 s ho G1 a1 w1 ro base _ F.rel (by rw [hf.2]; exact hro.ext (F.ext 0 (Nat.zero_le _))) F.marks (Nat.le_trans hb (F.ext 0 (Nat.zero_le _)).size) fun x2 s2 G2 a2 w2 ho2 hf2 F2 => ?_
    exact hQ x2 s2 G2 a2 w2 ho2 (hf.trans hf2) (F.trans F2 hf hf2)
  | exit id => exact hQ (.exit id) s G1 a1 w1 (h3 _ _ (by simp) ho) hf F
  | ret => exact hQ .ret s G1 a1 w1 (h3 _ _ (by simp) ho) hf F

/-- The numbers of the code of a range over a map. -/
structure RangeC (C : Ctx) (vars : List Nat) (N : Nat) (c : Code) (m : Nat) (R : RangeA) : Prop where
  ok : ∃ (i0 i1 i2 : Nat) (om o0 on oe : Oper) (ops0 ops1 ops2 : Array Oper) (os1 os2 : List Oper) (mt nx more pair out : Nat) (tm tk tv : TypeId) (body : Code),
    c = .seq (.region i0 ops0 false) (.block out (.loop (.seq (.region i1 ops1 false) (.seq (.cond (.tmp more) .skip (.exit out)) (.block R.nxt (.seq (.region i2 ops2 false) body)))))) ∧
    ops0.toList = [om, o0] ∧ om.op = .move (.tmp m) ∧ om.dst = some mt ∧ om.guard = none ∧ mt < N ∧ vars.contains mt = false ∧ o0.op = .range tm (.tmp mt) ∧ o0.dst = some R.it ∧ o0.guard = none ∧ R.it < N ∧ C.P.underlying tm = some (.map tk tv) ∧
    ops1.toList = on :: os1 ∧ on.op = .next (.tmp R.it) false ∧ on.dst = some nx ∧ on.guard = none ∧ nx < N ∧
    ops2.toList = oe :: os2 ∧ oe.op = .entry (.tmp R.it) ∧ oe.dst = some pair ∧ oe.guard = none ∧ pair < N ∧
    vars.contains R.it = true ∧ vars.contains m = true ∧ R.nx = (nx, vars.contains nx) ∧ R.pair = (pair, vars.contains pair) ∧
    mapO (C.oper vars N ops1) os1 = some R.t1 ∧ mapO (C.oper vars N ops2) os2 = some R.t2 ∧ C.opd vars (.tmp more) = some R.more ∧ C.code vars N body = some R.body

theorem Runs.range (hmix : C.P.follows .mixedOrders = true) (hC : CtxOk C fid) (hcall : CallOk C fid call) {c : Code} {m : Nat} {R : RangeA} (hc : RangeC C vars N c m R) {st : St} {l : Nat} {ents : List (V × V)}
    (hml : lookupE st.vE m = .map l) (hmp : st.H[l]? = some (.map ents)) (Inv : List Nat → St → Prop) (Out : St → Prop)
    (hI0 : Inv [] (rangeStart R.it st)) (hIit : ∀ d s, Inv d s → lookupE s.vE R.it = .ptr st.H.length 0)
    (hround : ∀ d s, Inv d s → ∀ i kv, i ∉ d → ents[i]? = some kv → ∃ s', R.round call n kv.1 kv.2 s = some s' ∧ st.H.length < s'.low ∧ Inv (d ++ [i]) s')
    (hfin : ∀ d s, Inv d s → d.Nodup → (∀ i, i ∈ d ↔ i < ents.length) → ∃ s', R.fin call s = some s' ∧ st.H.length < s'.low ∧ Out s') :
    Runs C fid vars N c st (fun x s => x = .normal ∧ ∃ s', Out s' ∧ s = { s' with low := min st.low st.H.length }) := fun G a w ro base Q hR hro hmk hb hQ => by
  obtain ⟨i0, i1, i2, om, o0, on, oe, ops0, ops1, ops2, os1, os2, mt, nx, more, pair, out, tm, tk, tv, body, rfl, h0, hmop, hmd, hmg, hmt, hvmt, h0op, h0d, h0g, hit, htm, h1, hnop, hnd, hng, hnx, h2, heop, hed, heg, hpr, hvit, hvm, hRnx, hRpair, ht1, ht2, hmore, hbody⟩ := hc.ok
  exact range_map_wp hmix hC hcall h0 hmop hmd hmg hmt hvmt h0op h0d h0g hit htm h1 hnop hnd hng hnx h2 heop hed heg hpr hvit hvm hRnx hRpair ht1 ht2 hmore hbody rfl rfl hml hmp Inv Out hI0 hIit hround hfin hR hro hmk hb
    fun s' G' a' w' ho hf F => hQ .normal _ G' a' w' ⟨rfl, s', ho, rfl⟩ hf F

/-- The numbers are looked up. -/
def rangeOf (C : Ctx) (vars : List Nat) (N : Nat) : Code → Option (Nat × RangeA)
  | .seq (.region _ ops0 false) (.block out (.loop (.seq (.region _ ops1 false) (.seq (.cond (.tmp more) .skip (.exit out')) (.block nxt (.seq (.region _ ops2 false) body)))))) =>
    match ops0.toList, ops1.toList, ops2.toList with
    | [⟨some mt, .move (.tmp m), _, _, _, none⟩, ⟨some it, .range tm (.tmp mt1), _, _, _, none⟩], ⟨some nx, .next (.tmp it1) false, _, _, _, none⟩ :: os1, ⟨some pair, .entry (.tmp it2), _, _, _, none⟩ :: os2 =>
      match C.P.underlying tm, mapO (C.oper vars N ops1) os1, mapO (C.oper vars N ops2) os2, C.opd vars (.tmp more), C.code vars N body with
      | some (.map _ _), some t1, some t2, some mo, some b =>
        if out' = out ∧ mt1 = mt ∧ mt < N ∧ vars.contains mt = false ∧ it1 = it ∧ it2 = it ∧ it < N ∧ nx < N ∧ pair < N ∧ vars.contains it = true ∧ vars.contains m = true then some (m, ⟨it, (nx, vars.contains nx), t1, mo, nxt, (pair, vars.contains pair), t2, b⟩) else none
      | _, _, _, _, _ => none
    | _, _, _ => none
  | _ => none

theorem rangeOf_ok {c : Code} {m : Nat} {R : RangeA} (h : rangeOf C vars N c = some (m, R)) : RangeC C vars N c m R := by
  unfold rangeOf at h
  split at h
  · rename_i i0 ops0 out i1 ops1 more out' nxt i2 ops2 body
    split at h
    · rename_i mt m' tym psm afm it tm mt1 ty0 ps0 af0 nx it1 ty1 ps1 af1 os1 pair it2 ty2 ps2 af2 os2 e0 e1 e2
      split at h
      · rename_i tk tv t1 t2 mo b u1 u2 u3 u4 u5
        split at h
        · rename_i hc
          obtain ⟨rfl, rfl, hmt, hvmt, rfl, rfl, h1, h2, h3, h4, h5⟩ := hc
          cases h
          exact ⟨_, _, _, _, _, _, _, _, _, _, _, _, _, _, _, _, _, _, _, _, _, rfl, e0, rfl, rfl, rfl, hmt, hvmt, rfl, rfl, rfl, h1, u1, e1, rfl, rfl, rfl, h2, e2, rfl, rfl, rfl, h3, h4, h5, rfl, rfl, u2, u3, u4, u5⟩
        · cases h
      · cases h
    · cases h
  · cases h

/-- What has not been handed out. -/
def restOf (d : List Nat) (k : Nat) : List Nat := (List.range k).filter fun i => !d.contains i

/-- All orders. -/
def RangeA.all (R : RangeA) (call : CallT) (n : Nat) (ents : List (V × V)) (li : Nat) : Nat → List Nat → St → Option (List St)
  | 0, _, _ => none
  | f + 1, d, s =>
    if eqV (lookupE s.vE R.it) (.ptr li 0) = true then
      match restOf d ents.length with
      | [] => match R.fin call s with
        | some s' => if Nat.blt li s'.low = true then some [s'] else none
        | none => none
      | i :: is => (mapO (fun i => match ents[i]? with
          | some kv => match R.round call n kv.1 kv.2 s with
            | some s' => if Nat.blt li s'.low = true then R.all call n ents li f (d ++ [i]) s' else none
            | none => none
          | none => none) (i :: is)).map List.flatten
    else none

theorem mapO_mem {α β : Type} {f : α → Option β} : ∀ {l : List α} {bs : List β}, mapO f l = some bs → ∀ {a : α}, a ∈ l → ∃ b ∈ bs, f a = some b
  | [], _, _, _, h => by cases h
  | x :: l, bs, hm, a, h => by
    simp only [mapO] at hm
    split at hm
    · rename_i b hb
      split at hm
      · rename_i bs' hbs
        cases hm
        rcases List.mem_cons.1 h with rfl | h
        · exact ⟨b, by simp, hb⟩
        · obtain ⟨b', h1, h2⟩ := mapO_mem hbs h
          exact ⟨b', by simp [h1], h2⟩
      · cases hm
    · cases hm

theorem RangeA.all_it {R : RangeA} {ents : List (V × V)} {li f : Nat} {d : List Nat} {s : St} {o : List St} (h : R.all call n ents li f d s = some o) : lookupE s.vE R.it = .ptr li 0 := by
  cases f with
  | zero => cases h
  | succ f =>
    simp only [RangeA.all] at h
    split at h
    · rename_i hq; exact eqV_eq _ _ hq
    · cases h

theorem Runs.rangeAll (hmix : C.P.follows .mixedOrders = true) (hC : CtxOk C fid) (hcall : CallOk C fid call) {c : Code} {m : Nat} {R : RangeA} (hc : RangeC C vars N c m R) {st : St} {l : Nat} {ents : List (V × V)}
    (hml : lookupE st.vE m = .map l) (hmp : st.H[l]? = some (.map ents)) {f : Nat} {outs : List St} (ha : R.all call n ents st.H.length f [] (rangeStart R.it st) = some outs) :
    Runs C fid vars N c st (fun x s => x = .normal ∧ ∃ s' ∈ outs, s = { s' with low := min st.low st.H.length }) := by
  refine Runs.range (n := n) hmix hC hcall hc hml hmp (fun d s => ∃ f o, R.all call n ents st.H.length f d s = some o ∧ ∀ x ∈ o, x ∈ outs) (fun s => s ∈ outs) ⟨f, outs, ha, fun _ h => h⟩ (fun d s ⟨f, o, h, _⟩ => RangeA.all_it h) ?_ ?_
  · rintro d s ⟨f, o, h, hs⟩ i kv hid hkv
    have hit := RangeA.all_it h
    have hil : i < ents.length := by
      rcases Nat.lt_or_ge i ents.length with q | q
      · exact q
      · rw [List.getElem?_eq_none q] at hkv; cases hkv
    have hmem : i ∈ restOf d ents.length := by
      unfold restOf
      simp [hil, hid]
    cases f with
    | zero => cases h
    | succ f =>
      simp only [RangeA.all, hit] at h
      split at h
      · split at h
        · rename_i hr; rw [hr] at hmem; cases hmem
        · rename_i j is hr
          rw [hr] at hmem
          obtain ⟨os, hos, rfl⟩ := Option.map_eq_some_iff.1 h
          obtain ⟨b, hb, hfb⟩ := mapO_mem hos hmem
          rw [hkv] at hfb
          simp only at hfb
          split at hfb
          · rename_i s' hr'
            split at hfb
            · rename_i hlow
              refine ⟨s', hr', ?_, f, b, hfb, fun x hx => hs x (List.mem_flatten.2 ⟨b, hb, hx⟩)⟩
              have := Nat.le_of_ble_eq_true hlow
              omega
            · cases hfb
          · cases hfb
      · cases h
  · rintro d s ⟨f, o, h, hs⟩ _ hall
    have hit := RangeA.all_it h
    cases f with
    | zero => cases h
    | succ f =>
      have hr : restOf d ents.length = [] := by
        unfold restOf
        rw [List.filter_eq_nil_iff]
        intro i hi
        have := (hall i).2 (List.mem_range.1 hi)
        simp [this]
      simp only [RangeA.all, hr] at h
      split at h
      case isFalse => cases h
      cases hf : R.fin call s with
      | none => rw [hf] at h; cases h
      | some s' =>
        rw [hf] at h
        simp only at h
        split at h
        · rename_i hlow
          cases h
          refine ⟨s', rfl, ?_, hs _ (by simp)⟩
          have := Nat.le_of_ble_eq_true hlow
          omega
        · cases h
end

/-- A body all of whose outcomes hand back the same. -/
theorem body_runs (hC : CtxOk C fid) {fi : Nat} {fn : Func} {c : Code} {ars : List ARes} {fresh : Bool} (hf : C.P.funcs[fi]? = some fn) (hb : fn.body = some c) (hres : mapO C.res fn.results.toList = some ars)
    {args : List V} {v : V} {low' : Nat} {xs : List Value} (hlen : args.length ≤ fn.ntmps)
    (hruns : Runs C fid (Ctx.varsOf fn) fn.ntmps c { tE := [], vE := zipE 0 args, H, low := H.length } (fun x st => (x = .normal ∨ x = .ret) ∧ ∃ vs, resultsA st.vE st.H ars = some vs ∧ finish fresh H (tupV vs) st.H st.low = some (v, H', low')))
    (hR : RelH C fid G H w) (hv : VRels fid G w args xs) : Calls C.P fi ⟨xs⟩ w (fun e w' => ∃ x, e = .returned x ∧ Post C fid G H w v H' low' x w') := by
  have hxl := hv.length
  have hR0 : RelSt C fid (Ctx.varsOf fn) fn.ntmps G { tE := [], vE := zipE 0 args, H, low := H.length } { tmps := (⟨xs⟩ : Array Value) ++ Array.replicate (fn.ntmps - (⟨xs⟩ : Array Value).size) undef, defers := [] } w := by
    refine ⟨hR, fun t => ?_, ?_, Nat.le_refl _⟩
    · unfold lookS
      split
      · rw [zipE_look]
        simp only [Nat.zero_le, if_true, Nat.sub_zero]
        cases ha : args[t]? with
        | none => exact .undef _
        | some u =>
          obtain ⟨x, hx, hux⟩ := hv.get ha
          have hlt : t < xs.length := by
            rcases Nat.lt_or_ge t xs.length with h | h
            · exact h
            · simp [List.getElem?_eq_none h] at hx
          have : ((⟨xs⟩ : Array Value) ++ Array.replicate (fn.ntmps - (⟨xs⟩ : Array Value).size) undef).getD t undef = x := by
            rw [Array.getD_eq_getD_getElem?, Array.getElem?_append_left (by simpa using hlt)]
            simp [hx]
          rw [this]; exact hux
      · exact .undef _
    · simp only [Array.size_append, Array.size_replicate]
      show xs.length + (fn.ntmps - xs.length) = fn.ntmps
      rw [hxl]; omega
  refine (callsIn_wide (n := 0)).1 (callsIn_of_wp_marks hf hb trivial ?_)
  refine hruns G _ w none w.heap.size _ hR0 trivial (.nil _ _ _) (Nat.le_refl _) fun x st G' a' w' ho hfr F => ?_
  obtain ⟨hX, vs, hr, hfi⟩ := ho
  obtain ⟨rs, hrs, nd, hm⟩ := F.marks
  have hend : LeavesInM Fence.wide 0 C.P fn a'.tmps (fun e w' => ∃ x, e = .returned x ∧ Post C fid G H w v H' low' x w') a'.defers .returning w' := by
    rw [hrs]
    refine leaves_marks (m0 := fun m => m ≤ st.low) rs w' nd hm F.rel.rel F.ext (fun _ _ _ => trivial) fun w2 k1 k2 k3 => ?_
    obtain ⟨x, hx, hux⟩ := results_run hres k1 (fun t ht => by
      have := F.rel.env t
      rw [lookS_var (resSlots_vars ht)] at this
      exact k3 this) hr
    exact ⟨x, hx, x, rfl, finish_sound hR k1 k2 hfr.1 hux hfi⟩
  rcases hX with rfl | rfl
  · exact hend
  · exact hend
end Go.Abs
/- A function whose body ranges over a map once: at each of some calls all its orders are reckoned; then these calls are words of the table. -/
namespace Go.Abs
open Go
variable {C : Ctx} {fid : Nat → Nat} {w w' : World} {G G' : Gh} {H H' : Heap}

section
variable {vars : List Nat} {N : Nat} {call : CallT} {n : Nat}

theorem Runs.pre (hmix : C.P.follows .mixedOrders = true) (hC : CtxOk C fid) (hcall : CallOk C fid call) {c d : Code} {ac : ACode} (hc : C.code vars N c = some ac) {st st' : St} (he : Abs.exec call n ac st = some (.normal, st'))
    {Out : X → St → Prop} (h : Runs C fid vars N d st' Out) : Runs C fid vars N (.seq c d) st Out :=
  Runs.seq (Runs.exec hmix hC hcall hc he) (fun s hs => by rw [hs.2]; exact h) fun x s hx hs => absurd hs.1 hx

def seqs : List Code → Code → Code
  | [], d => d
  | c :: r, d => .seq c (seqs r d)

def preRun (call : CallT) (n : Nat) : List ACode → St → Option St
  | [], st => some st
  | c :: r, st => match Abs.exec call n c st with
    | some (.normal, s) => preRun call n r s
    | _ => none

theorem Runs.pres (hmix : C.P.follows .mixedOrders = true) (hC : CtxOk C fid) (hcall : CallOk C fid call) {d : Code} {Out : X → St → Prop} : ∀ {cs : List Code} {acs : List ACode}, mapO (C.code vars N) cs = some acs → ∀ {st st' : St}, preRun call n acs st = some st' →
    Runs C fid vars N d st' Out → Runs C fid vars N (seqs cs d) st Out
  | [], acs, hm, st, st', he, h => by
    simp only [mapO, Option.some.injEq] at hm
    subst hm
    simp only [preRun, Option.some.injEq] at he
    subst he
    exact h
  | c :: cs, acs, hm, st, st', he, h => by
    simp only [mapO] at hm
    split at hm
    · rename_i a ha
      split at hm
      · rename_i as has
        cases hm
        simp only [preRun] at he
        split at he
        · rename_i s hs
          exact Runs.pre hmix hC hcall ha hs (Runs.pres hmix hC hcall has he h)
        · cases he
      · cases hm
    · cases hm
end

/-- A body: what comes ahead of the range, the range, what comes behind. -/
structure BodyA where
  pre : List ACode
  m : Nat
  R : RangeA
  post : ACode
  ars : List ARes

def isEnd : X → Bool
  | .normal | .ret => true
  | _ => false

def BodyA.ends (B : BodyA) (v : V) : X × St → Bool := fun (x, s) => isEnd x && match resultsA s.vE s.H B.ars with
  | some vs => match finish false [] (tupV vs) s.H s.low with
    | some (u, H', l) => eqV u v && H'.isEmpty && Nat.beq l 0
    | none => false
  | none => false

def BodyA.ok (B : BodyA) (call : CallT) (n : Nat) (args : List V) (v : V) : Bool :=
  match preRun call n B.pre { tE := [], vE := zipE 0 args, H := [], low := 0 } with
  | some st => match lookupE st.vE B.m with
    | .map l => match st.H[l]? with
      | some (.map ents) => match B.R.all call n ents st.H.length n [] (rangeStart B.R.it st) with
        | some outs => outs.all fun s' => match exec call n B.post { s' with low := min st.low st.H.length } with
          | some p => B.ends v p
          | none => false
        | none => false
      | _ => false
    | _ => false
  | none => false

/-- The code is the body. -/
structure BodyC (C : Ctx) (fn : Func) (B : BodyA) : Prop where
  ok : ∃ (cs : List Code) (cr cp : Code), fn.body = some (seqs cs (.seq cr cp)) ∧ mapO (C.code (Ctx.varsOf fn) fn.ntmps) cs = some B.pre ∧ rangeOf C (Ctx.varsOf fn) fn.ntmps cr = some (B.m, B.R) ∧ C.code (Ctx.varsOf fn) fn.ntmps cp = some B.post ∧
    mapO C.res fn.results.toList = some B.ars ∧ (fn.name == "runtime.NumGoroutine") = false

theorem BodyA.calls (hmix : C.P.follows .mixedOrders = true) (hC : CtxOk C fid) {call : CallT} (hcall : CallOk C fid call) {n fi : Nat} {fn : Func} {B : BodyA} (hf : C.P.funcs[fi]? = some fn) (hB : BodyC C fn B) {args : List V} {v : V} (hlen : args.length ≤ fn.ntmps)
    (hok : B.ok call n args v = true) {xs : List Value} (hR : RelH C fid G [] w) (hv : VRels fid G w args xs) : Calls C.P fi ⟨xs⟩ w (fun e w' => ∃ x, e = .returned x ∧ Post C fid G [] w v [] 0 x w') := by
  obtain ⟨cs, cr, cp, hb, hpre, hrange, hpost, hres, -⟩ := hB.ok
  refine body_runs hC hf hb hres (fresh := false) hlen ?_ hR hv
  unfold BodyA.ok at hok
  split at hok
  case h_2 => cases hok
  rename_i st hst
  split at hok
  case h_2 => cases hok
  rename_i l hl
  split at hok
  case h_2 => cases hok
  rename_i ents hents
  split at hok
  case h_2 => cases hok
  rename_i outs houts
  refine Runs.pres hmix hC hcall hpre hst ?_
  refine Runs.seq (Runs.rangeAll hmix hC hcall (rangeOf_ok hrange) hl hents houts) (fun s hs => ?_) fun x s hx hs => absurd hs.1 hx
  obtain ⟨-, s', hs', rfl⟩ := hs
  have h1 := List.all_eq_true.1 hok s' hs'
  split at h1
  case h_2 => cases h1
  rename_i p hp
  obtain ⟨x, s2⟩ := p
  refine (Runs.exec hmix hC hcall hpost hp).mono fun y s3 hy => ?_
  obtain ⟨rfl, rfl⟩ := hy
  unfold BodyA.ends at h1
  simp only [Bool.and_eq_true] at h1
  obtain ⟨h2, h3⟩ := h1
  refine ⟨?_, ?_⟩
  · cases y with
    | normal => exact .inl rfl
    | ret => exact .inr rfl
    | exit i => cases h2
  · split at h3
    case h_2 => cases h3
    rename_i vs hvs
    split at h3
    case h_2 => cases h3
    rename_i u H' k hfin
    simp only [Bool.and_eq_true] at h3
    obtain ⟨⟨h4, h5⟩, h6⟩ := h3
    have e1 := eqV_eq _ _ h4
    have e2 : H' = [] := by cases H' with
      | nil => rfl
      | cons => cases h5
    have e3 : k = 0 := Nat.eq_of_beq_eq_true h6
    subst e1; subst e2; subst e3
    exact ⟨vs, hvs, hfin⟩

/-- All that the words say was reckoned, in every order. -/
def BodyA.Reckoned (B : BodyA) (call : CallT) (n : Nat) (N : Nat) : List (List V × V) → Prop
  | [] => True
  | (as, v) :: r => (isP v = true ∧ Nat.ble as.length N = true ∧ B.ok call n as v = true) ∧ B.Reckoned call n N r

theorem BodyA.memos_ok (hmix : C.P.follows .mixedOrders = true) (hC : CtxOk C fid) {call : CallT} (hcall : CallOk C fid call) {n fi : Nat} {fn : Func} {B : BodyA} (hf : C.P.funcs[fi]? = some fn) (hB : BodyC C fn B) : ∀ {l : List (List V × V)}, B.Reckoned call n fn.ntmps l → ExtOk C fid fi (memos l) := by
  intro l hl G H w args v xs hR hxs hsp
  obtain ⟨cs, cr, cp, hb, -, -, -, -, hname⟩ := hB.ok
  rw [callFunc_run hf hb hname]
  induction l with
  | nil => cases hsp
  | cons p r ih =>
    obtain ⟨as, u⟩ := p
    simp only [memos] at hsp
    cases e : eqVs args as with
    | true =>
      rw [e] at hsp
      have h' : some u = some v := hsp
      cases h'
      have e' := eqVs_eq _ _ e
      subst e'
      obtain ⟨⟨h1, h2, h3⟩, -⟩ := hl
      have hc := BodyA.calls hmix hC hcall hf hB (Nat.le_of_ble_eq_true h2) h3 hR.apart (PRels.toV hxs)
      exact Calls.mono hc fun e w' => fun ⟨x, e1, e2⟩ => ⟨x, e1, e2.beside hR h1⟩
    | false => rw [e] at hsp; exact ih hl.2 hsp
end Go.Abs
