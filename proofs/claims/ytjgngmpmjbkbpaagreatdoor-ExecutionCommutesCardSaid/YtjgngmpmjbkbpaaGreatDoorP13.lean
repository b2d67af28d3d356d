/- Texts of this claim, joined and written short by a program. -/
import Derived.Test.YtjgngmpmjbkbpaaGreatDoorP12
import Derived.Test.YtjgngmpmjbkbpaaGreatDoorP00
set_option linter.unusedVariables false
set_option linter.unusedSimpArgs false
set_option linter.unusedSectionVars false
namespace Go.Abs
open Go
variable {C : Ctx} {fid : Nat -> Nat} {w w' : World} {G G' : bT} {H H' : Heap}
theorem abQ {vars : List Nat} {pos : String} {op : Op} {z : List V} (hc : C.op vars pos op = .alloc z) : ∃ t, op = .alloc t /\ C.zeroCells t = some z := by
 have cw : C.cI vars pos op = some (.alloc z) := by
  unfold Ctx.op at hc
  cases h : C.cI vars pos op with
  | none => rw [h] at hc; cases hc
  | some a => rw [h] at hc; simp only [vg] at hc; rw [hc]
 cases ho : op with
 | alloc t =>
   rw [ho] at cw
   simp only [Ctx.cI] at cw
   obtain ⟨RE, h1, h2⟩ := cD.1 cw
   cases h2
   exact ⟨t, rfl, h1⟩
 | call c =>
   exfalso
   rw [ho] at cw
   obtain ⟨callee, args, dQ⟩ := c
   cases callee with
   | value f =>
     simp only [Ctx.cI] at cw
     split at cw <;> simp at cw
   | builtin b =>
     simp only [Ctx.cI] at cw
     unfold Ctx.builtin at cw
     repeat' split at cw
     all_goals first
      | (cases cw; done)
      | (simp only [aA, reduceCtorEq] at cw; done)
      | (obtain ⟨_, _, h⟩ := cD.1 cw; cases h; done)
   | invoke r n => simp [Ctx.cI] at cw
 | binOp a b c d e =>
   exfalso
   rw [ho] at cw
   simp only [Ctx.cI, Ctx.w6] at cw
   repeat' split at cw
   all_goals first
    | (cases cw; done)
    | (obtain ⟨_, _, h⟩ := cD.1 cw; cases h; done)
 | makeFunc g a b =>
   exfalso
   rw [ho] at cw
   cases g with
   | func f =>
     simp only [Ctx.cI] at cw
     split at cw <;> simp at cw
   | _ => simp [Ctx.cI] at cw
 | makeMap t r =>
   exfalso
   rw [ho] at cw
   cases r <;> simp [Ctx.cI] at cw
 | _ =>
   exfalso
   rw [ho] at cw
   simp only [Ctx.cI] at cw
   repeat' split at cw
   all_goals first
    | (cases cw; done)
    | (obtain ⟨_, _, h⟩ := cD.1 cw; cases h; done)
theorem abR {vars : List Nat} {ρ : Operand -> Value} {o : Oper} {pos : String} {z : List V} (cV : C.op vars pos o.op = .alloc z) :
  ∃ t cells, o.op = .alloc t /\ (execOp ρ o).run C.P w = .ok (.value (.pointer (some ⟨w.heap.size, 0, none⟩))) (w.alloc (.cells cells t)) /\ ∀ G' w', a6 fid G' w' z cells.toList := by
 obtain ⟨t, ho, aP⟩ := abQ cV
 obtain ⟨cF, mN, nH, -, i, hi, -⟩ := B4 (fid := fid) aP
 refine ⟨t, cF.cells, ho, ?_, nH⟩
 unfold execOp; rw [ho]
 simp only [Instr.alloc, Sem.run_bind, mN, Result.andThen_ok, Sem.run_pure, newVar, newRow, run_newObj, World.alloc_eq]
section
variable {vars : List Nat} {N : Nat} {ops : Array Oper} {bz : List b3} {call : c3} {S : Nat -> au} {a8 : Nat -> Bool}
structure F7 (ops : Array Oper) (bz : List b3) (call : c3) (S : Nat -> au) (a8 : Nat -> Bool) (p q : Nat) : Prop where
 abS : p <= q
 RL : q <= ops.size
 still : ∀ i, i < p -> a8 i = false
 writer : ∀ i, q <= i -> i < ops.size -> a8 i = true -> ∀ (j : Nat) a1, p <= j -> bz[j]? = some a1 -> gm a1.op = true -> i ≠ j -> ((CheckFast.beforeF ops).getD (max i j) 0).testBit (min i j) = true
 behind : ∀ (j : Nat) a1, q <= j -> bz[j]? = some a1 -> gm a1.op = true -> ∀ i, p <= i -> i < q -> ((CheckFast.beforeF ops).getD j 0).testBit i = true
 alloc : ∀ i, p <= i -> i < q -> ∃ a1 z, bz[i]? = some a1 /\ a1.op = .alloc z /\ a1.guard = none
 kk : ∀ (j : Nat) a1 k, j < p -> q <= k -> k <= ops.size -> bz[j]? = some a1 -> gm a1.op = true -> kk call (a1, S j, (S k).H) = true
structure Cm (C : Ctx) (fid : Nat -> Nat) (vars : List Nat) (N : Nat) (ops : Array Oper) (S : Nat -> au) (a8 : Nat -> Bool) (p q : Nat) (G : bT) (w : World) (a : Act) (nJ : Nat)
  (L : Array Bool) (k : Nat) (ax : bT) (al : Act) (aC : World) : Prop where
 size : L.size = ops.size
 closed : ∀ x, L.getD x false = true -> ∀ i, ((CheckFast.beforeF ops).getD x 0).testBit i = true -> L.getD i false = true
 RM : q <= k
 tX : k <= ops.size
 qm : ∀ i, q <= i -> i < ops.size -> a8 i = true -> (L.getD i false = true ↔ i < k)
 rel : bb C fid ax (S k).H aC
 free : ∀ i, p <= i -> i < q -> L.getD i false = false -> ax.β (S i).H.length = Option.none
 env : ∀ t m, m <= ops.size -> (∀ (i : Nat) o, ops[i]? = some o -> o.dst = some t -> (L.getD i false = true ↔ i < m)) -> bg fid ax aC (dD vars (S m) t) (al.tmps.getD t undef)
 ox : al.tmps.size = N
 defers : al.defers = a.defers
 ext : ∀ m, m <= (S ops.size).low -> Ext G w ax aC m nJ
theorem F8 (T : j5 C vars N ops bz call S a8) {p q : Nat} (hl : F7 ops bz call S a8 p q) {i : Nat} (h1 : p <= i) (h2 : i < q) :
  a8 i = true /\ ∃ z, (S (i + 1)).H = (S i).H ++ [.cells z] /\ ∃ a1, bz[i]? = some a1 /\ a1.op = .alloc z /\ a1.guard = none /\ S (i + 1) = ({ S i with H := (S i).H ++ [.cells z], low := min (S i).low (S i).H.length } : au).put a1.dst (.ptr (S i).H.length 0) := by
 have RN := hl.RL
 obtain ⟨a1, z, ao, cV, bt⟩ := hl.alloc i h1 h2
 obtain ⟨o, abT, ho, fF, bd, cp⟩ := T.get (i := i) (by omega)
 rw [ao] at fF; cases fF
 rcases cp with ⟨hw, v, H1, b0, ah, aJ, lg⟩ | ⟨hw, -, -⟩
 case inr => rw [bt] at hw; simp [gP] at hw
 rw [cV] at ah
 have zY : step (aj.ag (S i).aE (S i).aw) (S i).H (S i).H.length (.alloc z) = some (v, H1, b0) := ah
 simp only [step, aA, bw] at zY
 obtain ⟨rfl, rfl, rfl⟩ := zY
 refine ⟨by rw [lg]; simp [fJ], z, ?_, a1, ao, cV, bt, aJ⟩
 rw [aJ]; exact (jL _ _ _).1
theorem Lr (T : j5 C vars N ops bz call S a8) {p q : Nat} (hl : F7 ops bz call S a8 p q) {i : Nat} (h1 : p <= i) : ∀ {k : Nat}, i + k <= q -> ∀ (l : Nat) (o : cE), (S i).H[l]? = some o -> (S (i + k)).H[l]? = some o
 | 0, _, l, o, h => h
 | k + 1, ai, l, o, h => by
   have ih := Lr T hl h1 (k := k) (by omega) l o h
   obtain ⟨-, z, e, -⟩ := F8 T hl (i := i + k) (by omega) (by omega)
   show (S (i + k + 1)).H[l]? = some o
   rw [e, hq ((fy.1 ih).1)]; exact ih
theorem abU {id : Nat} {st aU : au} {a : Act} {Q : Exit -> Act -> World -> Prop} {ro : Option Nat} (cC : C.P.follows .mixedOrders = true) (bx : eR C fid) (bj : gx C fid call)
  (hm : dH (C.oper vars N ops) ops.toList = some bz) (jo : Ctx.w7 ops = true) (ll : Ctx.w8 ops = true) (ql : (ops.toList.zip bz).all (fun (o, a) => Ctx.vr ops o a) = true)
  {S : Nat -> au} {a8 : Nat -> Bool} (h0 : S 0 = { st with aE := [] }) (hn : S ops.size = aU) (T : j5 C vars N ops bz call S a8) {p q : Nat} (hl : F7 ops bz call S a8 p q) (aa : dx C fid vars N G st a w)
  (dy : ∀ G' bf w', dx C fid vars N G' aU bf w' -> (∀ m, m <= aU.low -> Ext G w G' w' m st.H.length) -> bf.defers = a.defers -> Q .normal bf w') :
  (Code.region id ops true).wpIn (ek ro) 0 C.P Q a w := by
 have nK : st.H = (S 0).H /\ st.low = (S 0).low := by rw [h0]; exact ⟨rfl, rfl⟩
 have Cg : st.low <= st.H.length := aa.low
 have xB := hl.abS
 have RN := hl.RL
 have rb : ∀ k, k <= ops.size -> st.H.length <= (S k).H.length := fun k ai => by
  have := (T.mj bj.bN (i := 0) (j := k) (cx _) ai).1.len
  rw [<- nK.1] at this; exact this
 have abV : ∀ j, j <= p -> (S j).H = (S 0).H := fun j hj => by
  have := T.heap bj.bN (i := 0) (k := j) (by omega) fun x _ h2 => hl.still x (by omega)
  rw [eF] at this; exact this
 have abW : ∀ i, p <= i -> i < q -> ∀ k, q <= k -> k <= ops.size -> (S i).H.length < (S k).H.length := fun i h1 h2 k av bc => by
  obtain ⟨-, z, e, -⟩ := F8 T hl h1 h2
  have := (T.mj bj.bN (i := i + 1) (j := k) (by omega) bc).1.len
  rw [e] at this; simp at this; omega
 have mU : ∀ L k ax al aC, Cm C fid vars N ops S a8 p q G w a st.H.length L k ax al aC -> (∀ i, i < ops.size -> L.getD i false = true) -> Q .normal al aC := by
  intro L k ax al aC I eo
  have ai : (S ops.size).H = (S k).H := by
   have zZ := I.RM
   obtain ⟨d, hd⟩ := n3 I.tX
   rw [hd]
   refine T.heap bj.bN (by omega) fun x h1 h2 => ?_
   cases ae : a8 x with
   | false => rfl
   | true => have := (I.qm x (by omega) (by omega) ae).1 (eo x (by omega)); omega
  refine dy ax al aC ?_ (fun m hm => I.ext m (by rw [hn]; exact hm)) I.defers
  rw [<- hn]
  refine ⟨by rw [ai]; exact I.rel, fun t => I.env t ops.size (aK _) fun i o ho _ => ?_, I.ox, ?_⟩
  · have : i < ops.size := (r1.1 ho).1
    simp [this, eo i this]
  · exact (T.mj bj.bN (cx _) (aK _)).bound (by rw [<- nK.1, <- nK.2]; exact Cg)
 have Ch : ∀ L k ax al aC, Cm C fid vars N ops S a8 p q G w a st.H.length L k ax al aC -> Region.ready .any ops L = [] -> ∀ i, i < ops.size -> L.getD i false = true := by
  intro L k ax al aC I hr i
  induction i using Nat.strongRecOn with
  | _ i ih =>
    intro hi
    cases dT : L.getD i false with
    | true => rfl
    | false =>
      exfalso
      have : i ∈ Region.ready .any ops L := mem_ready.2 ⟨by
       have : i < L.size := by rw [I.size]; exact hi
       simp only [Array.getD, this, dif_pos] at dT ⊢; exact dT, ops[i], by simp [hi], fun e he hb => by
        have aH := Lg jo (j := i) (o := ops[i]) (by simp [hi]) he hb
        exact ih e.on aH (by omega)⟩
      rw [hr] at this; cases this
 have sg : ∀ (fuel : Nat) (L : Array Bool) (k : Nat) (ax : bT) (al : Act) (aC : World) (j : Nat), Cm C fid vars N ops S a8 p q G w a st.H.length L k ax al aC -> j ∈ Region.ready .any ops L ->
   (∀ gS bs G' bf w', Cm C fid vars N ops S a8 p q G w a st.H.length gS bs G' bf w' -> gS = L.setIfInBounds j true -> wpAnyIn (ek ro) 0 C.P .any ops Q fuel gS bf w') ->
   wpOpIn (ek ro) 0 C.P ops Q j (wpAnyIn (ek ro) 0 C.P .any ops Q fuel (L.setIfInBounds j true)) al aC := by
  intro fuel L k ax al aC j I hj vK
  obtain ⟨vL, o, ho, Ci⟩ := mem_ready.1 hj
  have hM : j < ops.size := (r1.1 ho).1
  have kN : j < L.size := by rw [I.size]; exact hM
  have nz : L.getD j false = false := by simp only [Array.getD, kN, dif_pos] at vL ⊢; exact vL
  have zZ := I.RM
  have tZ := I.tX
  obtain ⟨o', a1, j0, fF, bd, cp⟩ := T.get hM
  rw [ho] at j0; cases j0
  have vM : ∀ i, ((CheckFast.beforeF ops).getD j 0).testBit i = true -> L.getD i false = true := fun i hb => by
   obtain ⟨e, lj, mf, oy⟩ := Le ho hb
   have hl := Ci e lj mf
   rcases oy with rfl | oy
   · exact hl
   · exact I.closed e.on hl i oy
  have lW : ∀ i, i ≠ j -> ((CheckFast.beforeF ops).getD (max i j) 0).testBit (min i j) = true -> (L.getD i false = true ↔ i < j) := by
   intro i cT hb
   rcases gg i j with aH | hge
   · rw [Fg (by omega), nv (by omega)] at hb
     exact ⟨fun _ => aH, fun _ => vM i hb⟩
   · rw [Fj hge, ti hge] at hb
     refine ⟨fun dT => ?_, fun h => by omega⟩
     have := I.closed i dT j hb
     rw [nz] at this; cases this
  have vN : ∀ t, (o.dst = some t \/ t ∈ Ctx.fq ops o) -> ∀ (i : Nat) p, ops[i]? = some p -> p.dst = some t -> i ≠ j -> (L.getD i false = true ↔ i < j) := fun t ht i p hp hd cT =>
   lW i cT (Lf ll ho hp hd cT ht)
  have eT := cp.bN bj.bN
  have zX : ∀ x ∈ a1.op.operands, F0 (fun t => t ∈ Ctx.fq ops o) x := by
   intro x hx
   have h1 : (o, a1) ∈ ops.toList.zip bz := nu.2 ⟨j, by rw [zl]; exact ⟨by rw [iK]; exact ho, fF⟩⟩
   have h2 := fo.1 ql _ h1
   simp only [Ctx.vr, fo] at h2
   have av := h2 x hx
   cases x with
   | tmp t => exact tf.1 av
   | var t => exact tf.1 av
   | const v => trivial
   | func i => trivial
  have F4 : ∀ t, t ∈ Ctx.fq ops o -> bg fid ax aC (dD vars (S j) t) (al.tmps.getD t undef) := fun t ht => by
   refine I.env t j (by omega) fun i p hp hd => ?_
   by_cases cT : i = j
   · subst cT; simp [nz]
   · exact vN t (.inr ht) i p hp hd cT
  have j6 : ∀ i, (L.setIfInBounds j true).getD i false = true ↔ i = j \/ L.getD i false = true := fun i => tY kN
  have abX : p <= j -> j < q -> gm a1.op = true -> (S k).H = (S q).H := fun RO RP ht => by
   obtain ⟨d, rfl⟩ := n3 zZ
   refine T.heap bj.bN (by omega) fun x h1 h2 => ?_
   cases ae : a8 x with
   | false => rfl
   | true =>
     have hx := (I.qm x h1 (by omega) ae).2 h2
     have hb := hl.writer x h1 (by omega) ae j a1 RO fF ht (by omega)
     rw [Fj (by omega), ti (by omega)] at hb
     have := I.closed x hx j hb
     rw [nz] at this; cases this
  have xD : ∀ (bs : Nat) (x : Value) (bB : World) (bq : bT), q <= bs -> bs <= ops.size -> (∀ i, q <= i -> i < ops.size -> a8 i = true -> (i = j \/ L.getD i false = true ↔ i < bs)) -> bb C fid bq (S bs).H bB -> (∀ m, m <= (S (j + 1)).low -> Ext ax aC bq bB m st.H.length) -> (∀ t, o.dst = some t -> bg fid bq bB (dD vars (S (j + 1)) t) x) ->
    (∀ i, p <= i -> i < q -> i ≠ j -> L.getD i false = false -> bq.β (S i).H.length = Option.none) -> wpAnyIn (ek ro) 0 C.P .any ops Q fuel (L.setIfInBounds j true) (al.put o.dst x) bB := by
   intro bs x bB bq q1 aS bZ p1 p2 p3 lu
   have mT := p2 0 (cx _)
   refine vK _ bs bq _ bB ⟨by simp [I.size], fun x hx i hb => ?_, q1, aS, fun i h1 h2 ae => by rw [j6]; exact bZ i h1 h2 ae, p1, fun i hi ae pg => ?_, fun t m hm en => ?_, by rw [vH]; exact I.ox, by rw [put_defers]; exact I.defers, fun m hm => ?_⟩ rfl
   · rw [j6] at hx ⊢
     rcases hx with rfl | hx
     · exact .inr (vM i hb)
     · exact .inr (I.closed x hx i hb)
   · have bA : i ≠ j := fun e => by
      have := (j6 i).2 (.inl e)
      rw [this] at pg; cases pg
     refine lu i hi ae bA ?_
     cases af : L.getD i false with
     | false => rfl
     | true =>
       have := (j6 i).2 (.inr af)
       rw [this] at pg; cases pg
   · refine xz (fun d hd => by rw [I.ox]; exact bd.lt d hd) (fun h => ?_) (fun h => ?_)
     · have Ck : j < m := (en j o ho h).1 ((j6 j).2 (.inl rfl))
       have e : dD vars (S m) t = dD vars (S (j + 1)) t := by
        obtain ⟨d, rfl⟩ := n3 (show j + 1 <= m from Ck)
        refine T.slot (by omega) fun x p h1 h2 hp hd => ?_
        have vO : x ≠ j := by omega
        have al := (j6 x).1 ((en x p hp hd).2 h2)
        have a2 := (vN t (.inl h) x p hp hd vO).1 (al.resolve_left vO)
        omega
       rw [e]; exact p3 t h
     · refine (I.env t m hm fun i p hp hd => ?_).ext I.rel mT
       have cT : i ≠ j := fun e => by subst e; rw [ho] at hp; cases hp; exact h hd
       rw [<- en i p hp hd, j6]
       simp [cT]
   · have ah := (T.mj bj.bN (i := j + 1) (j := ops.size) hM (aK _)).1.low
     exact (I.ext m hm).trans (p2 m (by omega))
  by_cases hA : p <= j /\ j < q
  ·
   obtain ⟨h1, h2⟩ := hA
   obtain ⟨h8, z, abY, abT, RQ, cV, F5, aJ⟩ := F8 T hl h1 h2
   rw [fF] at RQ; cases RQ
   have xw : o.guard = none := by
    have := bd.guard
    rw [F5] at this
    cases bt : o.guard with
    | none => rfl
    | some p =>
      obtain ⟨q, b⟩ := p
      rw [bt] at this
      simp only [Ctx.guard] at this
      split at this <;> simp at this
   have F6 : C.op vars o.pos o.op = .alloc z := by rw [<- bd.op]; exact cV
   obtain ⟨ty, cells, ev, cf, pe⟩ := abR (fid := fid) (w := aC) (ρ := al.eval) F6
   refine RI ho xw (by rw [ev]; simp) cf ?_
   have lr : ∀ t, o.dst = some t -> dD vars (S (j + 1)) t = .ptr (S j).H.length 0 := fun t ht => by
    rw [aJ]
    rcases bd.dst with ⟨h2, -⟩ | ⟨d, -, h2, av⟩
    · rw [h2] at ht; cases ht
    · rw [h2] at ht; cases ht
      rw [av, Ce, if_pos rfl]
   have ai : (S k).H = (S q).H := abX h1 h2 (by rw [cV]; rfl)
   have re := I.free j h1 h2 nz
   have hcell : (S k).H[(S j).H.length]? = some (.cells z) := by
    rw [ai]
    obtain ⟨d, hd⟩ := n3 (show j + 1 <= q from h2)
    rw [hd]
    refine Lr T hl (by omega) (by omega) _ _ ?_
    rw [abY]; simp
   have Lq := I.rel.place re hcell (.cells cells ty) 0 0 ⟨rfl, rfl, cells, ty, oe _ _, pe _ _⟩
   refine xD k _ _ _ zZ tZ (fun i q1 aS ae => ?_) Lq (fun m _ => .place re _ _ _ m (rb j (by omega))) (fun t ht => ?_) fun i RR pg cT dT => ?_
   · rw [<- I.qm i q1 aS ae]
     exact ⟨fun h => h.resolve_left (by omega), .inr⟩
   · rw [lr t ht]
     exact .ptr _ _ ⟨aC.heap.size, 0, 0, false⟩ (de _ _ _) rfl
   · have bA : (S i).H.length ≠ (S j).H.length := by
      have key : ∀ i j, p <= i -> i < q -> i < j -> j < q -> (S i).H.length < (S j).H.length := fun i j al a2 a3 a4 => by
       obtain ⟨-, z, e, -⟩ := F8 T hl al a2
       have := (T.mj bj.bN (i := i + 1) (j := j) (by omega) (by omega)).1.len
       rw [e] at this; simp at this; omega
      rcases Nat.lt_or_gt_of_ne cT with c | c
      · have := key i j RR pg c h2; omega
      · have := key j i h1 h2 c pg; omega
     show cg ax.β (S j).H.length _ (S i).H.length = _
     rw [dp bA]
     exact I.free i RR pg dT
  ·
   have Lm : gm a1.op = true -> (S k).H = (S j).H \/ (a8 j = false /\ (gP (S j).aE (S j).aw a1.guard = some true -> ∀ v H1 b0, b9 call (aj.ag (S j).aE (S j).aw) (S j).H (S j).H.length a1.op = some (v, H1, b0) -> ∃ H2 dv, b9 call (aj.ag (S j).aE (S j).aw) (S k).H (S k).H.length a1.op = some (v, H2, dv) /\ fJ (S k).H H2 dv = false)) := by
    intro ht
    rcases gg j p with Cn | Cn
    · refine .inr ⟨hl.still j Cn, fun hw v H1 b0 h1 => ?_⟩
      have mm := hl.kk j a1 k Cn zZ tZ fF ht
      unfold Abs.kk at mm
      simp only [hw, h1] at mm
      split at mm
      · rename_i v' H2 dv h2
        simp only [cd, pZ] at mm
        have := tV _ _ mm.1
        subst this
        exact ⟨H2, dv, h2, mm.2⟩
      · cases mm
    · have RP : q <= j := by
       rcases gg j q with c | c
       · exact absurd ⟨Cn, c⟩ hA
       · exact c
      left
      have Cj : ∀ x, q <= x -> x < ops.size -> a8 x = true -> x ≠ j -> (L.getD x false = true ↔ x < j) := fun x h1 h2 ae hx => lW x hx (hl.writer x h1 h2 ae j a1 Cn fF ht hx)
      rcases Nat.le_total k j with vJ | Ll
      · obtain ⟨d, rfl⟩ := n3 vJ
        refine (T.heap bj.bN (by omega) fun x h1 h2 => ?_).symm
        cases ae : a8 x with
        | false => rfl
        | true =>
          have al := (Cj x (by omega) (by omega) ae (by omega)).2 (by omega)
          have a2 := (I.qm x (by omega) (by omega) ae).1 al
          omega
      · obtain ⟨d, rfl⟩ := n3 Ll
        refine T.heap bj.bN (by omega) fun x h1 h2 => ?_
        cases ae : a8 x with
        | false => rfl
        | true =>
          have a2 := (I.qm x (by omega) (by omega) ae).2 (by omega)
          by_cases hx : x = j
          · subst hx; rw [nz] at a2; cases a2
          · have := (Cj x (by omega) (by omega) ae hx).1 a2; omega
   have Ln : (S j).low <= (S k).H.length := by
    have ah := (T.mj bj.bN (i := 0) (j := j) (cx _) (by omega)).1.low
    have e2 := rb k tZ
    rw [<- nK.2] at ah
    omega
   refine xx (T := fun t => t ∈ Ctx.fq ops o) bx bj ho bd cp I.rel Lm Ln F4 zX (fun q want d bt hd => ?_) I.ox ?_
   · simp only [Ctx.fq, jV]
     right
     rw [bt]
     simp only []
     rw [hd]; simp
   · intro x bB bq p1 p2 p3
     have RS : ∀ i, p <= i -> i < q -> i ≠ j -> L.getD i false = false -> bq.β (S i).H.length = Option.none := fun i h1 h2 cT dT => by
      have re := I.free i h1 h2 dT
      cases hb : bq.β (S i).H.length with
      | none => rfl
      | some h' =>
        exfalso
        rcases (p2 0 (cx _)).mI _ _ hb with ⟨h, eK, -⟩ | ⟨hge, -⟩
        · rw [re] at eK; cases eK
        · have := abW i h1 h2 k zZ tZ; omega
     have RT : ∀ m, m <= (S (j + 1)).low -> Ext ax aC bq bB m st.H.length := fun m hm => (p2 m hm).le (aK _) (rb k tZ)
     cases h8 : a8 j with
     | false =>
       rw [h8] at p1
       refine xD k x bB bq zZ tZ (fun i q1 aS ae => ?_) p1 RT p3 RS
       rw [<- I.qm i q1 aS ae]
       exact ⟨fun h => h.resolve_left (fun e => by rw [e, h8] at ae; cases ae), .inr⟩
     | true =>
       rw [h8] at p1
       have RP : q <= j := by
        rcases gg j q with c | c
        · rcases gg j p with c' | c'
          · rw [hl.still j c'] at h8; cases h8
          · exact absurd ⟨c', c⟩ hA
        · exact c
       refine xD (j + 1) x bB bq (by omega) hM (fun i q1 aS ae => ?_) p1 RT p3 RS
       by_cases cT : i = j
       · subst cT; simp
       · have := lW i cT (hl.writer i q1 aS ae j a1 (by omega) fF (cp.gm h8) cT)
         simp only [cT, false_or]
         rw [this]; omega
 have key : ∀ (fuel : Nat) (L : Array Bool) (k : Nat) (ax : bT) (al : Act) (aC : World), Cm C fid vars N ops S a8 p q G w a st.H.length L k ax al aC -> (List.range ops.size).countP (fun i => !L.getD i false) <= fuel ->
   wpAnyIn (ek ro) 0 C.P .any ops Q fuel L al aC := by
  intro fuel
  induction fuel with
  | zero =>
    intro L k ax al aC I hc
    have eo : ∀ i, i < ops.size -> L.getD i false = true := fun i hi => by
     have h1 := List.countP_eq_zero.1 (Nat.le_zero.1 hc) i (by simpa using hi)
     simpa using h1
    refine ⟨?_, mU _ _ _ _ _ I eo⟩
    cases hr : Region.ready .any ops L with
    | nil => rfl
    | cons i r =>
      obtain ⟨h1, o, ho, -⟩ := mem_ready.1 (show i ∈ Region.ready .any ops L by rw [hr]; simp)
      have hi : i < ops.size := (r1.1 ho).1
      have h2 := eo i hi
      have : i < L.size := by rw [I.size]; exact hi
      simp only [Array.getD, this, dif_pos] at h1 h2
      rw [h1] at h2; cases h2
  | succ fuel ih =>
    intro L k ax al aC I hc
    refine ⟨fun hr => mU _ _ _ _ _ I (Ch _ _ _ _ _ I hr), fun j hj => sg fuel L k ax al aC j I hj fun gS bs G' bf w' qd e => ih gS bs G' bf w' qd ?_⟩
    subst e
    obtain ⟨h1, o, ho, -⟩ := mem_ready.1 hj
    have hM : j < ops.size := (r1.1 ho).1
    have kN : j < L.size := by rw [I.size]; exact hM
    have aH : (List.range ops.size).countP (fun i => !(L.setIfInBounds j true).getD i false) < (List.range ops.size).countP (fun i => !L.getD i false) := by
     refine Lh (a := j) (fun x _ hx => ?_) (by simpa using hM) ?_ ?_
     · cases af : L.getD x false with
       | false => rfl
       | true =>
         have := (tY (i := x) kN).2 (.inr af)
         rw [this] at hx; cases hx
     · simp only [Array.getD, kN, dif_pos] at h1 ⊢; rw [h1]; rfl
     · have := (tY (i := j) kN).2 (.inl rfl)
       rw [this]; rfl
    omega
 refine wpIn_region_any cC ?_
 have hw : ({ w with drawn := w.drawn + 1 } : World).heap = w.heap := rfl
 have iA := (aa.clear).la hw
 rw [<- h0] at iA
 have iV : ∀ i, (Array.replicate ops.size false).getD i false = false := fun i => by
  by_cases h : i < ops.size
  · simp [h]
  · simp [h]
 refine key ops.size (Array.replicate ops.size false) q G a { w with drawn := w.drawn + 1 } ⟨by simp, fun x hx => absurd hx (by rw [iV]; simp), aK _, RN, fun i h1 _ ae => by rw [iV]; simp; omega, iA.rel.longer fun l o mJ => ?_, fun i h1 h2 _ => ?_, fun t m hm en => ?_, iA.size, rfl, fun m _ => Ext.la hw rfl rfl m _⟩ ?_
 · rw [<- abV p (aK _)] at mJ
   obtain ⟨d, hd⟩ := n3 xB
   rw [hd]
   exact Lr T hl (aK _) (by omega) l o mJ
 · exact aa.rel.none (rb i (by omega))
 · have e : dD vars (S m) t = dD vars (S 0) t := by
    have := T.slot (t := t) (i := 0) (k := m) (by omega) fun x p h1 h2 hp hd => by
     have := (en x p hp hd).2 (by omega)
     rw [iV] at this; cases this
    rw [eF] at this; exact this
   rw [e]; exact iA.env t
 · refine c4 List.countP_le_length (by simp)
theorem RU {α : Type} {f : α -> Bool} : ∀ {l : List α} {i : Nat}, i < (l.takeWhile f).length -> ∃ a, l[i]? = some a /\ f a = true
 | [], i, h => by simp at h
 | a :: l, i, h => by
   rw [List.takeWhile_cons] at h
   split at h
   · rename_i ae
     cases i with
     | zero => exact ⟨a, rfl, ae⟩
     | succ i =>
       simp only [iv] at h
       obtain ⟨b, h1, h2⟩ := RU (f := f) (l := l) (i := i) (by omega)
       exact ⟨b, by simpa using h1, h2⟩
   · simp at h
theorem RV (l : List b3) : jX l <= n7 l := JO _ _
theorem Ls {α : Type} (f : α -> Bool) (l : List α) : (l.takeWhile f).length <= l.length := (List.takeWhile_sublist f).length_le
theorem abZ (l : List b3) : n7 l <= l.length := by
 unfold n7
 have h1 := Ls BI (l.drop (jX l))
 have h2 : jX l <= l.length := Ls _ l
 simp only [oW] at h1
 omega
theorem ab0 {l : List b3} {i : Nat} (h1 : jX l <= i) (h2 : i < n7 l) : ∃ a1 z, l[i]? = some a1 /\ a1.op = .alloc z /\ a1.guard = none := by
 unfold n7 at h2
 obtain ⟨a1, av, bc⟩ := RU (l := l.drop (jX l)) (f := BI) (i := i - jX l) (by omega)
 rw [PG] at av
 refine ⟨a1, ?_⟩
 unfold BI at bc
 split at bc
 · rename_i z ah e2
   exact ⟨z, by rw [<- av]; congr 1; omega, ah, e2⟩
 · cases bc
theorem ab1 {st : au} {wr : List Bool} {cB : List au} (hm : dH (C.oper vars N ops) ops.toList = some bz) (sx : gD call bz { st with aE := [] } = some cB)
  (h0 : S 0 = { st with aE := [] }) (ml : wr = (List.range ops.size).map a8) (hs : ∀ (i : Nat) a1, bz[i]? = some a1 -> mi call a1 (S i) (S (i + 1)) (a8 i))
  (hc : vp (CheckFast.beforeF ops).toList bz wr = true) (hd : (zv bz cB).all (kk call) = true) : F7 ops bz call S a8 (jX bz) (n7 bz) := by
 have hlen : bz.length = ops.size := by rw [tN _ hm, gW]
 have lS : ∀ i, (CheckFast.beforeF ops).toList.getD i 0 = (CheckFast.beforeF ops).getD i 0 := fun i => by
  rw [Bu, iK, ve]
 have xC : ∀ i j, qT (CheckFast.beforeF ops).toList i j = true -> ((CheckFast.beforeF ops).getD (max i j) 0).testBit (min i j) = true := fun i j this => by
  rw [F2, lS, lS] at this
  split at this
  · rw [Fj (by omega), ti (by omega)]; exact this
  · rw [Fg (by omega), nv (by omega)]; exact this
 have RW : ∀ i, i < ops.size -> wr[i]? = some (a8 i) := fun i hi => by rw [ml]; simp [hi]
 have bD := abZ bz
 have xB := RV bz
 unfold vp at hc
 simp only [cd, fo] at hc
 obtain ⟨⟨dL, e7⟩, gE⟩ := hc
 rw [<- h0] at sx
 have vw := K9 bz S a8 cB hs sx
 refine ⟨xB, by omega, fun i hi => ?_, fun i h1 h2 ae j a1 RO hj ht cT => ?_, fun j a1 h1 hj ht i h2 av => ?_, fun i h1 h2 => ab0 h1 h2, fun j a1 k hj ai Lj ao ht => ?_⟩
 · have := dL (a8 i) (nu.2 ⟨i, by rw [JK, if_pos hi]; exact RW i (by omega)⟩)
   simpa using this
 · have := e7 (true, i) (ma.2 (by rw [<- ae]; exact RW i h2))
   have hb : Nat.blt i (n7 bz) = false := by
    cases hx : Nat.blt i (n7 bz) with
    | false => rfl
    | true => have := k3 hx; omega
   simp only [fQ, hb, Bool.or_self, tj, fo] at this
   have av := this (a1, j) (ma.2 hj)
   have pb : Nat.blt j (jX bz) = false := by
    cases hx : Nat.blt j (jX bz) with
    | false => rfl
    | true => have := k3 hx; omega
   simp only [ht, pb, fQ, tj, kG, beq_iff_eq, cT, false_or] at av
   exact xC i j av
 · have := gE (a1, j) (ma.2 hj)
   have hb : Nat.blt j (n7 bz) = false := by
    cases hx : Nat.blt j (n7 bz) with
    | false => rfl
    | true => have := k3 hx; omega
   simp only [ht, hb, fQ, Bool.or_self, tj, fo] at this
   have bc := xC i j (this i (by rw [List.mem_range'_1]; omega))
   rw [Fg (by omega), nv (by omega)] at bc
   exact bc
 · have dn : (a1, S j, (S k).H) ∈ zv bz cB := by
    unfold zv
    simp only [PO, PK]
    refine ⟨S k, nu.2 ⟨k - n7 bz, ?_⟩, (a1, S j), nu.2 ⟨j, ?_⟩, by simp [ht]⟩
    · rw [PG, <- vw k (by omega)]; congr 1; omega
    · rw [JK, if_pos hj, zl]
      exact ⟨ao, vw j (by omega)⟩
   exact fo.1 hd _ dn
theorem ab2 {id : Nat} {st aU : au} {wr : List Bool} {a : Act} {Q : Exit -> Act -> World -> Prop} {ro : Option Nat} (cC : C.P.follows .mixedOrders = true) (bx : eR C fid) (bj : gx C fid call)
  (hm : dH (C.oper vars N ops) ops.toList = some bz) (jo : Ctx.w7 ops = true) (ll : Ctx.w8 ops = true) (ql : (ops.toList.zip bz).all (fun (o, a) => Ctx.vr ops o a) = true)
  (he : c9 call bz { st with aE := [] } [] = some (aU, wr)) (hin : (p7 (CheckFast.beforeF ops).toList bz wr || n8 call (CheckFast.beforeF ops).toList bz wr { st with aE := [] }) = true) (aa : dx C fid vars N G st a w)
  (dy : ∀ G' bf w', dx C fid vars N G' aU bf w' -> (∀ m, m <= aU.low -> Ext G w G' w' m st.H.length) -> bf.defers = a.defers -> Q .normal bf w') :
  (Code.region id ops true).wpIn (ek ro) 0 C.P Q a w := by
 cases jq : vo bz with
 | true => exact abM cC bx bj hm jo ll ql he jq aa dy
 | false =>
   unfold p7 at hin
   rw [jq, Bool.or_false] at hin
   unfold n8 at hin
   rw [<- Bool.or_assoc, kG] at hin
   rcases hin with hin | hin
   · exact abL cC bx bj hm jo ll ql he hin aa dy
   · split at hin
     · rename_i cB sx
       rw [cd] at hin
       obtain ⟨S, a8, h0, hn, ml, hs⟩ := vI _ _ _ _ _ he
       have T : j5 C vars N ops bz call S a8 := .of hm hs
       rw [T.len] at hn ml
       simp only [List.reverse_nil, oZ] at ml
       exact abU cC bx bj hm jo ll ql h0 hn T (ab1 hm sx h0 ml hs hin.1 hin.2) aa dy
     · cases hin
end
end Go.Abs
namespace Go.Abs
open Go
variable {C : Ctx} {fid : Nat -> Nat} {w w' : World} {G G' : bT} {H H' : Heap}
def z1 : X -> Exit
 | .normal => .normal
 | .exit id => .exit id
 | .ret => .ret
def ua (G : bT) : Option Nat -> Option Nat -> Prop
 | none, none => True
 | some l, some b => ∃ h, G.β l = some h /\ h.tag = 0 /\ h.b = b
 | _, _ => False
theorem ua.ext {m n : Nat} (h : Ext G w G' w' m n) : ∀ {l b : Option Nat}, ua G l b -> ua G' l b
 | none, none, _ => trivial
 | some l, some b, ⟨h0, e, t, q⟩ => by
   obtain ⟨h', e', -, z, m, -⟩ := h.homes l h0 e
   exact ⟨h', e', z t, by rw [(m ((z t).trans t.symm)).1]; exact q⟩
 | none, some _, k | some _, none, k => k.elim
def F9 (r : Nat) : Deferred := { target := .collected r, args := #[] }
structure Co (G : bT) (w : World) (base r : Nat) : Prop where
 base : base <= r
 lt : r < w.heap.size
 obj : w.heap[r]? = some (.deferred (some []))
 home : ∀ l h, G.β l = some h -> h.b ≠ r
 cX : ¬ G.I r
def j7 (C : Ctx) (G : bT) (w : World) (base : Nat) (ds : List Deferred) : Prop := ∃ rs : List (Nat ⊕ Deferred), ds = rs.map (fun | .inl r => F9 r | .inr d => d) /\ (rs.filterMap fun | .inl r => some r | .inr _ => none).Nodup /\
 (∀ r, .inl r ∈ rs -> Co G w base r) /\ ∀ d, .inr d ∈ rs -> FE C.P d
theorem Co.ext {m n base r : Nat} (h : Ext G w G' w' m n) (k : Co G w base r) : Co G' w' base r where
 base := k.base
 lt := pY k.lt h.size
 obj := by rw [h.ei r k.lt fun l x ah e2 => absurd e2 (k.home l x ah)]; exact k.obj
 home l x e q := by
  rcases h.Kh l x e with ⟨b8, ez, eb⟩ | hs
  · exact k.home l b8 ez (eb.trans q)
  · have := k.lt; omega
 cX hi := by
  rcases h.ny r hi with h1 | h1 | ⟨l, x, e, eb⟩
  · exact k.cX h1
  · have := k.lt; omega
  · exact k.home l x e eb
theorem j7.ext {m n base : Nat} {ds : List Deferred} (h : Ext G w G' w' m n) : j7 C G w base ds -> j7 C G' w' base ds
 | ⟨rs, e, dE, k, q⟩ => ⟨rs, e, dE, fun r hr => (k r hr).ext h, q⟩
theorem rf (bx : eR C fid) {vars : List Nat} {N : Nat} {st : au} {a : Act} (aa : dx C fid vars N G st a w) : fh C fid vars G w (aj.ag st.aE st.aw) a.eval := fun x cv hx => by
 cases x with
 | tmp t =>
   simp only [Ctx.bV, aA] at hx
   have e : cv.ag st.aE st.aw = dD vars st t := by rw [<- hx]; unfold dD; split <;> rfl
   rw [e]; exact aa.env t
 | const u =>
   simp only [Ctx.bV] at hx
   obtain ⟨Rw, kl, rfl⟩ := cD.1 hx
   rcases BR (I := G.I) (w := w) u kl with rfl | hp
   · exact .undef _
   · exact .p _ _ hp
 | func f => exact Kt bx hx
 | global g => simp [Ctx.bV] at hx
theorem Ga {F : Fence} {n : Nat} {P : Program} {Q : Exit -> Act -> World -> Prop} {c : Code} (I : Nat -> Act -> World -> Prop)
  (round : ∀ k a w, I k a w -> ∃ bs, k = bs + 1 /\ c.wpIn F n P (Exit.then (I bs) Q) a w) {j : Nat} {a : Act} {w : World} (h₀ : I j a w) : (Code.loop c).wpIn F n P Q a w := by
 intro b k cs eB hb hr
 have key : ∀ j a w, I j a w ->
   ∃ e bf w', Q e bf w' /\ ArrivesIn (Machine.fenced P F) P (lone (b.atR a (.code c :: .inLoop c :: k)) cs w) b k cs e bf w' := by
  intro j
  induction j with
  | zero =>
    intro a w aZ
    obtain ⟨bs, e, -⟩ := round 0 a w aZ
    omega
  | succ j ih =>
    intro a w aZ
    obtain ⟨bs, e, fT⟩ := round _ a w aZ
    cases e
    obtain ⟨e, z6, z7, bD, q6⟩ := fT b (.inLoop c :: k) cs eB hb hr
    cases e with
    | normal =>
      obtain ⟨Ke, ab3, ab4, ab5, ab6⟩ := ih z6 z7 bD
      exact ⟨Ke, ab3, ab4, ab5, .of_steps (StepsIn.trans q6 (.one (fenced_calm hb hr rfl) stepR_inLoop)) ab6⟩
    | exit id => exact ⟨_, z6, z7, bD, .pass (x := .inLoop c) rfl (fun _ _ => .inl (by simp)) q6⟩
    | goto l => exact ⟨_, z6, z7, bD, .pass (x := .inLoop c) rfl (fun _ _ => .inl (by simp)) q6⟩
    | ret => exact ⟨_, z6, z7, bD, .pass (x := .inLoop c) rfl (fun _ _ => .inl (by simp)) q6⟩
    | panic aqV => exact ⟨_, z6, z7, bD, .pass (x := .inLoop c) rfl (fun _ _ => .inl (by simp)) q6⟩
    | outgrown => exact ⟨_, z6, z7, bD, .pass (x := .inLoop c) rfl (fun _ _ => .inl (by simp)) q6⟩
 obtain ⟨e, bf, w', bD, q6⟩ := key _ a w h₀
 exact ⟨e, bf, w', bD, .of_steps (.one (fenced_calm hb hr rfl) stepR_loop) q6⟩
structure Fin (C : Ctx) (fid : Nat -> Nat) (vars : List Nat) (N base : Nat) (st : au) (G : bT) (w : World) (aU : au) (G' : bT) (bf : Act) (w' : World) : Prop where
 rel : dx C fid vars N G' aU bf w'
 ext : ∀ m, m <= aU.low -> Ext G w G' w' m st.H.length
 marks : j7 C G' w' base bf.defers
def pj (C : Ctx) (fid : Nat -> Nat) (call : c3) (n : Nat) (c : Code) : Prop :=
 ∀ (ac : cm) (vars : List Nat) (N : Nat), C.code vars N c = some ac -> ∀ (st : au) (x : X) (aU : au), exec call n ac st = some (x, aU) ->
 ∀ (G : bT) (a : Act) (w : World) (ro : Option Nat) (base : Nat) (Q : Exit -> Act -> World -> Prop), dx C fid vars N G st a w -> ua G st.ro ro -> j7 C G w base a.defers -> base <= w.heap.size ->
   (∀ G' bf w', Fin C fid vars N base st G w aU G' bf w' -> Q (z1 x) bf w') -> c.wpIn (ek ro) 0 C.P Q a w
section
variable {call : c3} {n : Nat}
theorem Fin.refl {vars : List Nat} {N base : Nat} {st : au} {a : Act} (h : dx C fid vars N G st a w) (k : j7 C G w base a.defers) : Fin C fid vars N base st G w st G a w :=
 ⟨h, fun m _ => .refl _ _ _ _, k⟩
theorem Fin.trans {vars : List Nat} {N base : Nat} {st bW gi : au} {ax bq : bT} {al a2 : Act} {aC bB : World} (h : Fin C fid vars N base st G w bW ax al aC) (k : Fin C fid vars N base bW ax aC gi bq a2 bB)
  (f1 : fU st bW) (f2 : fU bW gi) : Fin C fid vars N base st G w gi bq a2 bB :=
 ⟨k.rel, fun m hm => (h.ext m (c4 hm f2.1.low)).trans ((k.ext m hm).le (aK _) f1.1.len), k.marks⟩
theorem ab7 (bx : eR C fid) (bj : gx C fid call) {id : Nat} {ops : Array Oper} {os : List Oper} {gQ : Oper} {c : Call} {f : Operand} {k8 : aj} {vars : List Nat} {N : Nat} {bz : List b3} {st aU : au} {wr : List Bool} {a : Act} {base : Nat} {Q : Exit -> Act -> World -> Prop}
  (sz : ops.toList = os ++ [gQ]) (ab8 : gQ.op = .defer c) (mV : c.callee = .value f) (Cp : c.args = #[]) (bt : gQ.guard = none) (zW : gQ.dst = none) (hm : dH (C.oper vars N ops) os = some bz) (ae : C.bV vars f = some k8)
  (he : c9 call bz { st with aE := [] } [] = some (aU, wr)) (bd : JY C.zy (k8.ag aU.aE aU.aw) = true) (aa : dx C fid vars N G st a w) (ev : j7 C G w base a.defers)
  (dy : ∀ G' bf w', dx C fid vars N G' aU bf w' -> (∀ m, m <= aU.low -> Ext G w G' w' m st.H.length) -> j7 C G' w' base bf.defers -> Q .normal bf w') :
  (Code.region id ops false).wpIn (ek none) 0 C.P Q a w := by
 obtain ⟨S, a8, h0, hn, -, hs⟩ := vI _ _ _ _ _ he
 have hlen : bz.length = os.length := tN _ hm
 have dP : ops.size = os.length + 1 := by rw [<- gW, sz]; simp
 have key : ∀ k j, j + k = os.length -> ∀ bq al bB, dx C fid vars N bq (S j) al bB -> (∀ m, m <= (S j).low -> Ext G w bq bB m st.H.length) -> al.defers = a.defers -> st.H.length <= (S j).H.length ->
   wpOpsIn (ek none) 0 C.P ops Q (List.range' j (k + 1)) al bB := by
  intro k
  induction k with
  | zero =>
    intro j hj bq al bB bG ch eL _
    have e : j = bz.length := by omega
    subst e
    rw [hn] at bG ch
    have ho : ops[bz.length]? = some gQ := by rw [<- iK, sz, hlen]; simp
    rw [th, wpOpsIn_cons]
    have fg := rf bx bG f k8 ae
    unfold JY at bd
    split at bd
    · rename_i i cs zV
      rw [zV] at fg
      obtain ⟨xs, cN, eJ, RX, af⟩ := fg.zI
      cases eJ
      unfold wpOpIn
      rw [ho]
      have hw : Region.wanted gQ (yielded ops al.tmps) = true := by unfold Region.wanted; rw [bt]
      simp only [hw, if_true]
      refine ⟨fun _ _ => trivial, ?_⟩
      have cf : (Oper.semAt (ek none).round al.eval gQ).run C.P bB = .ok (.defer { target := .fn (.func i) ⟨cN⟩, args := #[] }) bB := by
       show (Oper.semAt none al.eval gQ).run C.P bB = _
       rw [Oper.semAt_none]
       unfold execOp
       rw [ab8]
       obtain ⟨Qv, gI, jM⟩ := c
       simp only at mV Cp
       subst mV; subst Cp
       simp only [resolve, af, Sem.run_bind, Sem.run_pure, Result.andThen_ok]
       simp [Sem.run_pure, Deferred.ofValue]
       try rfl
      rw [cf]
      simp only [Oper.uponIn]
      rw [zW]
      show Q .normal _ _
      refine dy bq _ bB ⟨bG.rel, bG.env, bG.size, bG.low⟩ (fun m hm => ch m hm) ?_
      obtain ⟨rs, ah, dE, cn, dZ⟩ := ev.ext (ch 0 (cx _))
      refine ⟨.inr { target := .fn (.func i) ⟨cN⟩, args := #[] } :: rs, ?_, dE, fun r hr => cn r (by simpa using hr), fun d hd => ?_⟩
      · show _ :: al.defers = _
        rw [eL, ah]; rfl
      · rcases dS.1 hd with hd | hd
        · cases hd; exact bx.Z6 i (tf.1 bd) _
        · exact dZ d hd
    · cases bd
  | succ k ih =>
    intro j hj bq al bB bG ch eL gq
    have oj : j < os.length := by omega
    have j0 : os[j]? = some os[j] := by simp [oj]
    have ho : ops[j]? = some os[j] := by rw [<- iK, sz, hq oj]; exact j0
    have Cq : j < bz.length := by omega
    have fF : bz[j]? = some bz[j] := by simp [Cq]
    have Lt : sv C vars N ops os[j] bz[j] := zU (tO _ hm j0 fF)
    have cp := hs j _ fF
    rw [th, wpOpsIn_cons]
    have eT := cp.bN bj.bN
    refine xx (T := fun _ => True) bx bj ho Lt cp bG.rel (fun _ => .inl rfl) bG.low (fun t _ => bG.env t) (fun x _ => by cases x <;> trivial) (fun _ _ _ _ _ => trivial) bG.size ?_
    intro x fr iW p1 p2 p3
    have xA : bb C fid iW (S (j + 1)).H fr := by
     cases ae : a8 j with
     | true => rw [ae] at p1; exact p1
     | false => rw [ae] at p1; rw [cp.still bj.bN ae]; exact p1
    have mT := p2 0 (cx _)
    refine ih (j + 1) (by omega) iW _ fr ⟨xA, fun t => ?_, by rw [vH]; exact bG.size, eT.bound bG.low⟩ (fun m hm => (ch m (c4 hm eT.1.low)).trans ((p2 m hm).le (aK _) gq)) (by rw [put_defers]; exact eL)
     (c4 gq eT.1.len)
    refine xz (fun d hd => by rw [bG.size]; exact Lt.lt d hd) (fun h => p3 t h) (fun h => ?_)
    rw [cp.look Lt h]
    exact (bG.env t).ext bG.rel mT
 refine wpIn_region ?_
 rw [dP, Fa]
 have iA := aa.clear
 rw [<- h0] at iA
 exact key os.length 0 (by omega) G a w iA (fun m _ => .refl _ _ _ _) rfl (by rw [h0]; exact aK _)
theorem ab9 {C : Ctx} {vars : List Nat} {n : Nat} {ops : Array Oper} {ac : cm} (h : C.JZ vars n ops = some ac) :
  ∃ os gQ c f bz k8, ops.toList = os ++ [gQ] /\ gQ.op = .defer c /\ c.callee = .value f /\ c.args = #[] /\ gQ.guard = none /\ gQ.dst = none /\ dH (C.oper vars n ops) os = some bz /\ C.bV vars f = some k8 /\ ac = .w4 bz C.zy k8 := by
 unfold Ctx.JZ at h
 split at h
 · cases h
 · rename_i gQ hl _
   split at h
   · rename_i f args dQ cV bt
     split at h
     · rename_i bz k8 ao hm ae
       split at h
       · rename_i hd
         cases h
         have bA : ops.toList ≠ [] := by intro e; rw [e] at hl; cases hl
         have : ops.toList.dropLast ++ [gQ] = ops.toList := by
          have e2 := List.getLast?_eq_some_getLast bA
          rw [hl] at e2
          cases e2
          exact List.dropLast_concat_getLast bA
         exact ⟨_, gQ, _, f, bz, k8, this.symm, cV, rfl, by simpa using ao, bt, by simpa using hd, hm, ae, rfl⟩
       · cases h
     · cases h
   · cases h
 · cases h
theorem aca (cC : C.P.follows .mixedOrders = true) (bx : eR C fid) (bj : gx C fid call) (id : Nat) (ops : Array Oper) (draw : Bool) : pj C fid call n (.region id ops draw) := by
 intro ac vars N hc st x aU he G a w ro base Q aa eB ev hb dy
 simp only [Ctx.code] at hc
 split at hc
 · rename_i r hd
   cases hc
   split at hd
   · cases hd
   · rename_i Lu
     have Lu : draw = false := by simpa using Lu
     subst Lu
     obtain ⟨os, gQ, c, f, bz, k8, h1, h2, av, bc, h5, gu, lv, acb, rfl⟩ := ab9 hd
     simp only [exec, au.fz] at he
     split at he
     · rename_i bW wr hex
       split at he
       · rename_i bd
         cases he
         simp only [cd] at bd
         have z8 : st.ro = none := by
          have := (nI bj.bN _ _ _ _ _ (by exact aa.low) hex).2
          simp only at this
          simpa [this] using bd.1
         rw [z8] at eB
         have acd : ro = none := by
          cases ro with
          | none => rfl
          | some b => exact eB.elim
         subst acd
         exact ab7 bx bj h1 h2 av bc h5 gu lv acb hex bd.2 aa ev fun G' bf w' bG ch eL => dy G' bf w' ⟨bG.clear, ch, eL⟩
       · cases he
     · cases he
 split at hc
 · rename_i bz hm
   cases hd : draw with
   | false =>
     rw [hd] at hc
     simp only [o0, if_true, aA] at hc
     subst hc
     simp only [exec, au.fz] at he
     split at he
     · rename_i bW wr h1
       cases he
       exact abG bx bj hm h1 aa fun G' bf w' bG ch eL => dy G' bf w' ⟨bG.clear, ch, by rw [eL]; exact ev.ext (ch 0 (cx _))⟩
     · cases he
   | true =>
     rw [hd] at hc
     simp only [fQ, gX, if_false] at hc
     split at hc
     · rename_i en
       simp only [cd] at en
       obtain ⟨⟨h1, h2⟩, av⟩ := en
       cases hc
       simp only [exec, au.fz] at he
       split at he
       · rename_i bW wr bc
         split at he
         · rename_i hin
           cases he
           exact ab2 cC bx bj hm h1 h2 av bc hin aa fun G' bf w' bG ch eL => dy G' bf w' ⟨bG.clear, ch, by rw [eL]; exact ev.ext (ch 0 (cx _))⟩
         · cases he
       · cases he
     · cases hc
 · cases hc
theorem ace (eT : lU call) {x y : Code} (hx : pj C fid call n x) (hy : pj C fid call n y) : pj C fid call n (.seq x y) := by
 intro ac vars N hc st r aU he G a w ro base Q aa eB ev hb dy
 simp only [Ctx.code] at hc
 split at hc
 · rename_i cv km h1 h2
   cases hc
   simp only [exec, au.fz] at he
   refine wpIn_seq ?_
   split at he
   · rename_i bW lj
     have f1 := lq eT n _ _ _ _ aa.low lj
     refine hx _ _ _ h1 _ _ _ lj G a w ro base _ aa eB ev hb fun ax al aC fV => ?_
     have f2 := lq eT n _ _ _ _ fV.rel.low he
     exact hy _ _ _ h2 _ _ _ he ax al aC ro base _ fV.rel (by rw [f1.2]; exact eB.ext (fV.ext 0 (cx _))) fV.marks (c4 hb (fV.ext 0 (cx _)).size) fun bq a2 bB sA => dy bq a2 bB (fV.trans sA f1 f2)
   · rename_i bA
     refine hx _ _ _ h1 _ _ _ he G a w ro base _ aa eB ev hb fun ax al aC fV => ?_
     have := dy ax al aC fV
     cases r with
     | normal => exact absurd he (bA _)
     | exit id => exact this
     | ret => exact this
 · cases hc
theorem acf (bx : eR C fid) {o : Operand} {x y : Code} (hx : pj C fid call n x) (hy : pj C fid call n y) : pj C fid call n (.cond o x y) := by
 intro ac vars N hc st r aU he G a w ro base Q aa eB ev hb dy
 simp only [Ctx.code] at hc
 split at hc
 · rename_i c cv km h0 h1 h2
   cases hc
   simp only [exec, au.fz] at he
   have af := rf bx aa o c h0
   split at he
   · rename_i mO
     rw [mO] at af
     exact wpIn_cond_true af.j1 (hx _ _ _ h1 _ _ _ he G a w ro base Q aa eB ev hb dy)
   · rename_i mO
     rw [mO] at af
     exact wpIn_cond_false af.j1 (hy _ _ _ h2 _ _ _ he G a w ro base Q aa eB ev hb dy)
   · cases he
 · cases hc
theorem acg {id : Nat} {x : Code} (hx : pj C fid call n x) : pj C fid call n (.block id x) := by
 intro ac vars N hc st r aU he G a w ro base Q aa eB ev hb dy
 simp only [Ctx.code] at hc
 obtain ⟨cv, h1, rfl⟩ := cD.1 hc
 simp only [exec, au.fz] at he
 refine wpIn_block ?_
 split at he
 · rename_i sc bW lj
   refine hx _ _ _ h1 _ _ _ lj G a w ro base _ aa eB ev hb fun ax al aC fV => ?_
   split at he
   · rename_i hid
     cases he
     simp only [z1, Exit.inBlock, hid, if_true]
     exact dy ax al aC fV
   · rename_i hid
     cases he
     simp only [z1, Exit.inBlock, hid, if_false]
     exact dy ax al aC fV
 · rename_i bA
   refine hx _ _ _ h1 _ _ _ he G a w ro base _ aa eB ev hb fun ax al aC fV => ?_
   have := dy ax al aC fV
   cases r with
   | normal => exact this
   | exit id => exact absurd he (bA _ _)
   | ret => exact this
theorem ach (eT : lU call) {x : Code} (hx : pj C fid call n x) : pj C fid call n (.loop x) := by
 intro ac vars N hc st r aU he G a w ro base Q aa eB ev hb dy
 simp only [Ctx.code] at hc
 obtain ⟨cv, h1, rfl⟩ := cD.1 hc
 simp only [exec, au.fz] at he
 refine Ga (fun k al aC => ∃ bW ax, iter (exec call n cv) k bW = some (r, aU) /\ fU st bW /\ Fin C fid vars N base st G w bW ax al aC) ?_ ⟨st, G, he, .refl _, .refl aa ev⟩
 rintro k al aC ⟨bW, ax, hi, ae, fV⟩
 cases k with
 | zero => simp [iter] at hi
 | succ k =>
   refine ⟨k, rfl, ?_⟩
   simp only [iter] at hi
   have z8 : ua ax bW.ro ro := by rw [ae.2]; exact eB.ext (fV.ext 0 (cx _))
   have mO : base <= aC.heap.size := c4 hb (fV.ext 0 (cx _)).size
   split at hi
   · rename_i gi mf
     have f2 := lq eT n _ _ _ _ fV.rel.low mf
     exact hx _ _ _ h1 _ _ _ mf ax al aC ro base _ fV.rel z8 fV.marks mO fun bq a2 bB sA => ⟨gi, bq, hi, ae.trans f2, fV.trans sA ae f2⟩
   · rename_i bA
     have f2 := lq eT n _ _ _ _ fV.rel.low hi
     refine hx _ _ _ h1 _ _ _ hi ax al aC ro base _ fV.rel z8 fV.marks mO fun bq a2 bB sA => ?_
     have := dy bq a2 bB (fV.trans sA ae f2)
     cases r with
     | normal => exact absurd hi (bA _)
     | exit id => exact this
     | ret => exact this
end
end Go.Abs
