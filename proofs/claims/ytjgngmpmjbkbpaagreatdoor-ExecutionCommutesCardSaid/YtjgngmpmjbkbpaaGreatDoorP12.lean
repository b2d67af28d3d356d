/- Texts of this claim, joined and written short by a program. -/
import Derived.Test.YtjgngmpmjbkbpaaGreatDoorP11
import Derived.Test.YtjgngmpmjbkbpaaGreatDoorP00
set_option linter.unusedVariables false
set_option linter.unusedSimpArgs false
set_option linter.unusedSectionVars false
namespace Go.Abs
open Go
variable {C : Ctx} {fid : Nat -> Nat} {w w' : World} {G G' : bT} {H H' : Heap}
theorem bb.place (aa : bb C fid G H w) {l : Nat} (hn : G.β l = Option.none) {o : cE} (hl : H[l]? = some o) (aT : Obj) (tag ff : Nat)
  (ho : iT C fid ⟨cg G.β l ⟨w.heap.size, tag, ff, false⟩, G.I⟩ (w.alloc aT) ⟨w.heap.size, tag, ff, false⟩ o) :
  bb C fid ⟨cg G.β l ⟨w.heap.size, tag, ff, false⟩, G.I⟩ H (w.alloc aT) := by
 have hle := zC hn ⟨w.heap.size, tag, ff, false⟩
 refine ⟨fun x h hb => ?_, fun x x' h h' e e' q => ?_, fun x h hb => ?_, fun b hb => ?_, fun x h hb ae => ?_, fun b o bt => ⟨(aa.e6 b o bt).1, by rw [alloc_old (aa.cX b (aa.e6 b o bt).1).1]; exact (aa.e6 b o bt).2⟩⟩
 · by_cases hx : x = l
   · subst hx
     simp only [de] at hb; cases hb
     exact ⟨o, hl, ho⟩
   · simp only [dp hx] at hb
     obtain ⟨o', e', hr⟩ := aa.obj x h hb
     exact ⟨o', e', hr.mono (G' := ⟨cg G.β l _, G.I⟩) hle (fun b hb => ⟨hb, alloc_old (aa.cX b hb).1⟩) (alloc_old (aa.blk x h hb))⟩
 · by_cases hx : x = l <;> by_cases ed : x' = l
   · rw [hx, ed]
   · subst hx; simp only [de] at e; cases e
     simp only [dp ed] at e'
     have := aa.blk x' h' e'; simp only at q; omega
   · subst ed; simp only [de] at e'; cases e'
     simp only [dp hx] at e
     have := aa.blk x h e; simp only at q; omega
   · simp only [dp hx] at e; simp only [dp ed] at e'
     exact aa.inj x x' h h' e e' q
 · rw [World.size_alloc]
   by_cases hx : x = l
   · subst hx; simp only [de] at hb; cases hb; simp
   · simp only [dp hx] at hb; have := aa.blk x h hb; omega
 · have hi := aa.cX b hb
   refine ⟨by rw [World.size_alloc]; omega, fun x h e q => ?_⟩
   by_cases hx : x = l
   · subst hx; simp only [de] at e; cases e; simp only at q; omega
   · simp only [dp hx] at e; exact hi.2 x h e q
 · by_cases hx : x = l
   · subst hx; simp only [de] at hb; cases hb; cases ae
   · simp only [dp hx] at hb; exact aa.jY x h hb ae
theorem Ext.place {l : Nat} (hn : G.β l = Option.none) {fp : Nat} (aT : Obj) (tag ff m : Nat) (hl : fp <= l) : Ext G w ⟨cg G.β l ⟨w.heap.size, tag, ff, false⟩, G.I⟩ (w.alloc aT) m fp where
 size := by simp
 os := rfl
 output := rfl
 ei b hb _ := alloc_old hb
 homes := zC hn _
 mI x h hb := by
  by_cases hx : x = l
  · subst hx; simp only [de] at hb; cases hb; exact .inr ⟨hl, aK _⟩
  · simp only [dp hx] at hb; exact .inl ⟨h, hb, .inl rfl⟩
 cX _ h := h
 ny _ h := .inl h
theorem bb.longer (aa : bb C fid G H w) (h : ∀ (l : Nat) (o : cE), H[l]? = some o -> H'[l]? = some o) : bb C fid G H' w :=
 ⟨fun l x e => by
  obtain ⟨o, ho, hr⟩ := aa.obj l x e
  exact ⟨o, h l o ho, hr⟩, aa.inj, aa.blk, aa.cX, aa.jY, aa.e6⟩
theorem RD {vars : List Nat} {pos : String} {op : Op} {es : Nat} {z : List V} {bytes : Nat} {ln ac : aj} (hc : C.op vars pos op = .mkSlice es z bytes ln ac) : ∃ t l c, op = .makeSlice t l c /\ C.cI vars pos op = some (.mkSlice es z bytes ln ac) := by
 have cw : C.cI vars pos op = some (.mkSlice es z bytes ln ac) := by
  unfold Ctx.op at hc
  cases h : C.cI vars pos op with
  | none => rw [h] at hc; cases hc
  | some a => rw [h] at hc; simp only [vg] at hc; rw [hc]
 cases ho : op with
 | makeSlice t l c => rw [ho] at cw; exact ⟨t, l, c, rfl, cw⟩
 | call c =>
   exfalso
   rw [ho] at cw
   obtain ⟨callee, args, dQ⟩ := c
   cases callee with
   | value f =>
     simp only [Ctx.cI] at cw
     split at cw <;> simp at cw
   | builtin b =>
     simp only [Ctx.cI] at cw
     unfold Ctx.builtin at cw
     repeat' split at cw
     all_goals first
      | (cases cw; done)
      | (simp only [aA, reduceCtorEq] at cw; done)
      | (obtain ⟨_, _, h⟩ := cD.1 cw; cases h; done)
   | invoke r n => simp [Ctx.cI] at cw
 | binOp a b c d e =>
   exfalso
   rw [ho] at cw
   simp only [Ctx.cI, Ctx.w6] at cw
   repeat' split at cw
   all_goals first
    | (cases cw; done)
    | (obtain ⟨_, _, h⟩ := cD.1 cw; cases h; done)
 | makeFunc g a b =>
   exfalso
   rw [ho] at cw
   cases g with
   | func f =>
     simp only [Ctx.cI] at cw
     split at cw <;> simp at cw
   | _ => simp [Ctx.cI] at cw
 | makeMap t r =>
   exfalso
   rw [ho] at cw
   cases r <;> simp [Ctx.cI] at cw
 | _ =>
   exfalso
   rw [ho] at cw
   simp only [Ctx.cI] at cw
   repeat' split at cw
   all_goals first
    | (cases cw; done)
    | (obtain ⟨_, _, h⟩ := cD.1 cw; cases h; done)
theorem run_mk {vars : List Nat} {ag : aj -> V} {ρ : Operand -> Value} {o : Oper} {pos : String} {es : Nat} {z : List V} {bytes : Nat} {ln ac : aj} (aM : fh C fid vars G w ag ρ) (cV : C.op vars pos o.op = .mkSlice es z bytes ln ac)
  {n m : Int} {k bs : IntKind} (ah : ag ln = .int k n) (e2 : ag ac = .int bs m) (hb : n = m /\ 0 <= n /\ n * (bytes + 1) <= 2 ^ 40) :
  0 < es /\ ∃ e cells, (execOp ρ o).run C.P w = .ok (.value (.slice (some ⟨w.heap.size, 0, none⟩) n.toNat n.toNat)) (w.alloc (.cells cells e)) /\ cells.size = n.toNat * es /\
    (∀ d ∈ List.replicate n.toNat (lO z), (aG d).length = es) /\ ∀ G' w', a6 fid G' w' ((List.replicate n.toNat (lO z)).flatMap aG) cells.toList := by
 obtain ⟨t, l, c, ho, hc⟩ := RD cV
 rw [ho] at hc
 simp only [Ctx.cI] at hc
 split at hc
 · rename_i e hd
   split at hc
   · rename_i i RE aqT aqU hi aP h1 h2
     split at hc
     · cases hc
     · rename_i en
       simp only [not_or, ne_eq, Classical.not_not] at en
       simp only [aA, cH.mkSlice.injEq] at hc
       obtain ⟨rfl, rfl, rfl, rfl, rfl⟩ := hc
       obtain ⟨cF, mN, nH, bd, -⟩ := B4 (fid := fid) aP
       have xn : cF.cells.size = i.size := by rw [<- gW, (nH G w).length, en.2]
       have hl := aM l _ h1
       have tG := aM c _ h2
       obtain ⟨rfl, mM, hbound⟩ := hb
       rw [ah] at hl; rw [e2] at tG
       obtain ⟨j, rfl⟩ := Pz mM
       have mO : j <= 1099511627776 := by
        have : (j : Int) * 1 <= (j : Int) * ((i.bytes : Int) + 1) := Int.mul_le_mul_of_nonneg_left (by omega) mM
        omega
       have pb : (i.bytes : Int) * (j : Int) <= 1099511627776 := by
        have : (j : Int) * ((i.bytes : Int) + 1) = (i.bytes : Int) * (j : Int) + j := by rw [Int.mul_add, Int.mul_comm]; omega
        omega
       have hw := Q6 mM (by omega : (j : Int) <= 1099511627776)
       have jE : 0 < i.size := PI en.1
       have cf : ∃ cells, (execOp ρ o).run C.P w = .ok (.value (.slice (some ⟨w.heap.size, 0, none⟩) j j)) (w.alloc (.cells cells e)) /\ cells.toList = (List.range (j * i.size)).map (fun q => cF.cells[q % cF.cells.size]!) := by
        refine ⟨(Array.range (j * i.size)).map (fun q => (if j * i.size = 0 then #[] else cF.cells : Array Value)[q % (if j * i.size = 0 then #[] else cF.cells : Array Value).size]!), ?_, ?_⟩
        · unfold execOp; rw [ho]
          have pd : ¬ ((decide ((j : Int) < 0) || decide ((i.bytes : Int) * (j : Int) > 2 ^ 48)) = true) := by simp; omega
          have nA : ¬ ((decide ((j : Int) < 0) || decide ((i.bytes : Int) * (j : Int) > 2 ^ 48) || decide ((j : Int) < 0) || decide ((j : Int) > (j : Int))) = true) := by simp; omega
          simp only [hl.jm, tG.jm, Instr.makeSlice, asInt, asIntOf, Sem.run_bind, Sem.run_pure, Result.andThen_ok, run_underlying hd, run_typeInfo (P := C.P) w hi, hw]
          rw [if_neg (by simpa using nA)]
          simp only [Sem.run_bind, run_askRoom, Result.andThen_ok, sizeOf, run_typeInfo (P := C.P) w hi, Sem.run_pure, JM]
          by_cases h0 : j * i.size = 0
          · simp only [h0, if_true, Sem.run_bind, Sem.run_pure, Result.andThen_ok, newRow, run_newObj, World.alloc_eq]
          · simp only [h0, if_false, Sem.run_bind, Sem.run_pure, Result.andThen_ok, mN, newRow, run_newObj, World.alloc_eq]
        · by_cases h0 : j * i.size = 0
          · simp [h0]
          · simp [h0]
       obtain ⟨cells, cf, j2⟩ := cf
       have hu := KR bd (n := j) en.2
       rw [xn] at j2
       have pe : ∀ G' w', a6 fid G' w' ((List.replicate j (lO RE)).flatMap aG) cells.toList := fun G' w' => by
        have := FM (nH G' w') bd (by omega) j
        rw [xn, <- j2] at this
        exact this
       refine ⟨jE, e, cells, cf, ?_, hu, pe⟩
       rw [<- gW, (pe G w).length, mK hu, vf]; rfl
   · cases hc
 · cases hc
section
variable {vars : List Nat} {N : Nat} {ops : Array Oper} {bz : List b3} {call : c3} {S : Nat -> au} {a8 : Nat -> Bool}
theorem RF {ag : aj -> V} {low b0 : Nat} {es : Nat} {z : List V} {bytes : Nat} {ln ac : aj} {v : V} {H1 : Heap} (h : b9 call ag H low (.mkSlice es z bytes ln ac) = some (v, H1, b0)) :
  ∃ k bs n m, ag ln = .int k n /\ ag ac = .int bs m /\ (n = m /\ 0 <= n /\ n * (bytes + 1) <= 2 ^ 40) /\
    ((n = 0 /\ v = .emp /\ H1 = H /\ b0 = low) \/ (n ≠ 0 /\ v = .cQ H.length es 0 n.toNat n.toNat /\ H1 = H ++ [.row es (List.replicate n.toNat (lO z)) false] /\ b0 = low)) := by
 have h' : step ag H low (.mkSlice es z bytes ln ac) = some (v, H1, b0) := h
 simp only [step] at h'
 split at h'
 · rename_i k n bs m ah e2
   split at h'
   · rename_i hb
     refine ⟨k, bs, n, m, ah, e2, hb, ?_⟩
     split at h'
     · rename_i h0
       cases h'
       exact .inl ⟨h0, rfl, rfl, rfl⟩
     · rename_i h0
       cases h'
       exact .inr ⟨h0, rfl, rfl, rfl⟩
   · cases h'
 · cases h'
theorem RG (h : vo bz = true) {i : Nat} {a1 : b3} (hi : bz[i]? = some a1) (ht : gm a1.op = true) : a1.guard = none /\ ∃ es z bytes ln ac, a1.op = .mkSlice es z bytes ln ac := by
 unfold vo at h
 have h1 := fo.1 h a1 (fm hi)
 rw [ht] at h1
 simp only [fQ, tj] at h1
 split at h1
 · rename_i ah e2; exact ⟨e2, _, _, _, _, _, ah⟩
 · cases h1
theorem Lo (T : j5 C vars N ops bz call S a8) (hc : lU call) (jq : vo bz = true) {i : Nat} (hi : i < ops.size) :
  (a8 i = false /\ (S (i + 1)).H = (S i).H) \/ (a8 i = true /\ ∃ o, (S (i + 1)).H = (S i).H ++ [o]) := by
 obtain ⟨o, a1, -, fF, -, cp⟩ := T.get hi
 cases ae : a8 i with
 | false => exact .inl ⟨rfl, cp.still hc ae⟩
 | true =>
   right
   refine ⟨rfl, ?_⟩
   obtain ⟨-, es, z, bytes, ln, ac, cV⟩ := RG jq fF (cp.gm ae)
   rcases cp with ⟨-, v, H1, b0, h1, e, h2⟩ | ⟨-, -, h2⟩
   · rw [cV] at h1
     obtain ⟨k, bs, n, m, -, -, -, hr⟩ := RF h1
     have eZ : (S (i + 1)).H = H1 := by rw [e, (jL _ _ _).1]
     rcases hr with ⟨-, -, rfl, rfl⟩ | ⟨-, -, rfl, -⟩
     · rw [ae] at h2
       simp [fJ] at h2
     · exact ⟨_, eZ⟩
   · rw [h2] at ae; cases ae
theorem Lp (T : j5 C vars N ops bz call S a8) (hc : lU call) (jq : vo bz = true) {i : Nat} : ∀ {k : Nat}, i + k <= ops.size -> ∀ (l : Nat) (o : cE), (S i).H[l]? = some o -> (S (i + k)).H[l]? = some o
 | 0, _, l, o, h => h
 | k + 1, ai, l, o, h => by
   have ih := Lp T hc jq (k := k) (by omega) l o h
   rcases Lo T hc jq (i := i + k) (by omega) with ⟨-, e⟩ | ⟨-, o', e⟩
   · rw [show i + (k + 1) = i + k + 1 from rfl, e]; exact ih
   · rw [show i + (k + 1) = i + k + 1 from rfl, e, hq ?_]
     · exact ih
     · rcases gg l (S (i + k)).H.length with q | q
       · exact q
       · rw [mF q] at ih; cases ih
theorem RH (T : j5 C vars N ops bz call S a8) (hc : lU call) (jq : vo bz = true) {i j : Nat} (cT : i < j) (hj : j < ops.size) (ae : a8 i = true) : (S i).H.length < (S j).H.length := by
 have h1 := (T.mj hc (i := i + 1) (j := j) cT (by omega)).1.len
 rcases Lo T hc jq (i := i) (by omega) with ⟨e, -⟩ | ⟨-, o, e⟩
 · rw [e] at ae; cases ae
 · rw [e] at h1; simp at h1; omega
structure Cl (C : Ctx) (fid : Nat -> Nat) (vars : List Nat) (N : Nat) (ops : Array Oper) (S : Nat -> au) (a8 : Nat -> Bool) (G : bT) (w : World) (a : Act) (nJ : Nat)
  (L : Array Bool) (ax : bT) (al : Act) (aC : World) : Prop where
 size : L.size = ops.size
 closed : ∀ x, L.getD x false = true -> ∀ i, ((CheckFast.beforeF ops).getD x 0).testBit i = true -> L.getD i false = true
 rel : bb C fid ax (S ops.size).H aC
 free : ∀ i, i < ops.size -> a8 i = true -> L.getD i false = false -> ax.β (S i).H.length = Option.none
 env : ∀ t m, m <= ops.size -> (∀ (i : Nat) o, ops[i]? = some o -> o.dst = some t -> (L.getD i false = true ↔ i < m)) -> bg fid ax aC (dD vars (S m) t) (al.tmps.getD t undef)
 ox : al.tmps.size = N
 defers : al.defers = a.defers
 ext : ∀ m, m <= (S ops.size).low -> Ext G w ax aC m nJ
theorem RI {j : Nat} {o : Oper} {a : Act} {K : Act -> World -> Prop} {Q : Exit -> Act -> World -> Prop} {ro : Option Nat} {aC : World} (ho : ops[j]? = some o) (bt : o.guard = none) (hnd : ∀ c, o.op ≠ .defer c) {x : Value}
  (cf : (execOp a.eval o).run C.P w = .ok (.value x) aC) (ow : K (a.put o.dst x) aC) : wpOpIn (ek ro) 0 C.P ops Q j K a w := by
 unfold wpOpIn
 rw [ho]
 have hw : Region.wanted o (yielded ops a.tmps) = true := by unfold Region.wanted; rw [bt]
 simp only [hw, if_true]
 refine ⟨fun _ _ => trivial, ?_⟩
 rw [Oper.semAt_eq _ _ _ hnd, cf]
 exact ow
theorem abM {id : Nat} {st aU : au} {wr : List Bool} {a : Act} {Q : Exit -> Act -> World -> Prop} {ro : Option Nat} (cC : C.P.follows .mixedOrders = true) (bx : eR C fid) (bj : gx C fid call)
  (hm : dH (C.oper vars N ops) ops.toList = some bz) (jo : Ctx.w7 ops = true) (ll : Ctx.w8 ops = true) (ql : (ops.toList.zip bz).all (fun (o, a) => Ctx.vr ops o a) = true)
  (he : c9 call bz { st with aE := [] } [] = some (aU, wr)) (jq : vo bz = true) (aa : dx C fid vars N G st a w)
  (dy : ∀ G' bf w', dx C fid vars N G' aU bf w' -> (∀ m, m <= aU.low -> Ext G w G' w' m st.H.length) -> bf.defers = a.defers -> Q .normal bf w') :
  (Code.region id ops true).wpIn (ek ro) 0 C.P Q a w := by
 obtain ⟨S, a8, h0, hn, -, hs⟩ := vI _ _ _ _ _ he
 have T : j5 C vars N ops bz call S a8 := .of hm hs
 rw [T.len] at hn
 have nK : st.H = (S 0).H /\ st.low = (S 0).low := by rw [h0]; exact ⟨rfl, rfl⟩
 have Cg : st.low <= st.H.length := aa.low
 have rb : ∀ k, k <= ops.size -> st.H.length <= (S k).H.length := fun k ai => by
  have := (T.mj bj.bN (i := 0) (j := k) (cx _) ai).1.len
  rw [<- nK.1] at this; exact this
 have mU : ∀ L ax al aC, Cl C fid vars N ops S a8 G w a st.H.length L ax al aC -> (∀ i, i < ops.size -> L.getD i false = true) -> Q .normal al aC := by
  intro L ax al aC I eo
  refine dy ax al aC ?_ (fun m hm => I.ext m (by rw [hn]; exact hm)) I.defers
  rw [<- hn]
  refine ⟨I.rel, fun t => I.env t ops.size (aK _) fun i o ho _ => ?_, I.ox, ?_⟩
  · have : i < ops.size := (r1.1 ho).1
    simp [this, eo i this]
  · exact (T.mj bj.bN (cx _) (aK _)).bound (by rw [<- nK.1, <- nK.2]; exact Cg)
 have Ch : ∀ L ax al aC, Cl C fid vars N ops S a8 G w a st.H.length L ax al aC -> Region.ready .any ops L = [] -> ∀ i, i < ops.size -> L.getD i false = true := by
  intro L ax al aC I hr i
  induction i using Nat.strongRecOn with
  | _ i ih =>
    intro hi
    cases dT : L.getD i false with
    | true => rfl
    | false =>
      exfalso
      have : i ∈ Region.ready .any ops L := mem_ready.2 ⟨by
       have : i < L.size := by rw [I.size]; exact hi
       simp only [Array.getD, this, dif_pos] at dT ⊢; exact dT, ops[i], by simp [hi], fun e he hb => by
        have aH := Lg jo (j := i) (o := ops[i]) (by simp [hi]) he hb
        exact ih e.on aH (by omega)⟩
      rw [hr] at this; cases this
 have sg : ∀ (fuel : Nat) (L : Array Bool) (ax : bT) (al : Act) (aC : World) (j : Nat), Cl C fid vars N ops S a8 G w a st.H.length L ax al aC -> j ∈ Region.ready .any ops L ->
   (∀ gS G' bf w', Cl C fid vars N ops S a8 G w a st.H.length gS G' bf w' -> gS = L.setIfInBounds j true -> wpAnyIn (ek ro) 0 C.P .any ops Q fuel gS bf w') ->
   wpOpIn (ek ro) 0 C.P ops Q j (wpAnyIn (ek ro) 0 C.P .any ops Q fuel (L.setIfInBounds j true)) al aC := by
  intro fuel L ax al aC j I hj vK
  obtain ⟨vL, o, ho, Ci⟩ := mem_ready.1 hj
  have hM : j < ops.size := (r1.1 ho).1
  have kN : j < L.size := by rw [I.size]; exact hM
  have nz : L.getD j false = false := by simp only [Array.getD, kN, dif_pos] at vL ⊢; exact vL
  obtain ⟨o', a1, j0, fF, bd, cp⟩ := T.get hM
  rw [ho] at j0; cases j0
  have vM : ∀ i, ((CheckFast.beforeF ops).getD j 0).testBit i = true -> L.getD i false = true := fun i hb => by
   obtain ⟨e, lj, mf, oy⟩ := Le ho hb
   have hl := Ci e lj mf
   rcases oy with rfl | oy
   · exact hl
   · exact I.closed e.on hl i oy
  have lW : ∀ i, i ≠ j -> ((CheckFast.beforeF ops).getD (max i j) 0).testBit (min i j) = true -> (L.getD i false = true ↔ i < j) := by
   intro i cT hb
   rcases gg i j with aH | hge
   · rw [Fg (by omega), nv (by omega)] at hb
     exact ⟨fun _ => aH, fun _ => vM i hb⟩
   · rw [Fj hge, ti hge] at hb
     refine ⟨fun dT => ?_, fun h => by omega⟩
     have := I.closed i dT j hb
     rw [nz] at this; cases this
  have vN : ∀ t, (o.dst = some t \/ t ∈ Ctx.fq ops o) -> ∀ (i : Nat) p, ops[i]? = some p -> p.dst = some t -> i ≠ j -> (L.getD i false = true ↔ i < j) := fun t ht i p hp hd cT =>
   lW i cT (Lf ll ho hp hd cT ht)
  have eT := cp.bN bj.bN
  have zX : ∀ x ∈ a1.op.operands, F0 (fun t => t ∈ Ctx.fq ops o) x := by
   intro x hx
   have h1 : (o, a1) ∈ ops.toList.zip bz := nu.2 ⟨j, by rw [zl]; exact ⟨by rw [iK]; exact ho, fF⟩⟩
   have h2 := fo.1 ql _ h1
   simp only [Ctx.vr, fo] at h2
   have av := h2 x hx
   cases x with
   | tmp t => exact tf.1 av
   | var t => exact tf.1 av
   | const v => trivial
   | func i => trivial
  have F4 : ∀ t, t ∈ Ctx.fq ops o -> bg fid ax aC (dD vars (S j) t) (al.tmps.getD t undef) := fun t ht => by
   refine I.env t j (by omega) fun i p hp hd => ?_
   by_cases cT : i = j
   · subst cT; simp [nz]
   · exact vN t (.inr ht) i p hp hd cT
  have j6 : ∀ i, (L.setIfInBounds j true).getD i false = true ↔ i = j \/ L.getD i false = true := fun i => tY kN
  have xD : ∀ (x : Value) (bB : World) (bq : bT), bb C fid bq (S ops.size).H bB -> (∀ m, m <= (S (j + 1)).low -> Ext ax aC bq bB m st.H.length) -> (∀ t, o.dst = some t -> bg fid bq bB (dD vars (S (j + 1)) t) x) ->
    (∀ i, i < ops.size -> a8 i = true -> i ≠ j -> L.getD i false = false -> bq.β (S i).H.length = Option.none) -> wpAnyIn (ek ro) 0 C.P .any ops Q fuel (L.setIfInBounds j true) (al.put o.dst x) bB := by
   intro x bB bq p1 p2 p3 lu
   have mT := p2 0 (cx _)
   refine vK _ bq _ bB ⟨by simp [I.size], fun x hx i hb => ?_, p1, fun i hi ae pg => ?_, fun t m hm en => ?_, by rw [vH]; exact I.ox, by rw [put_defers]; exact I.defers, fun m hm => ?_⟩ rfl
   · rw [j6] at hx ⊢
     rcases hx with rfl | hx
     · exact .inr (vM i hb)
     · exact .inr (I.closed x hx i hb)
   · have bA : i ≠ j := fun e => by
      have := (j6 i).2 (.inl e)
      rw [this] at pg; cases pg
     refine lu i hi ae bA ?_
     cases af : L.getD i false with
     | false => rfl
     | true =>
       have := (j6 i).2 (.inr af)
       rw [this] at pg; cases pg
   · refine xz (fun d hd => by rw [I.ox]; exact bd.lt d hd) (fun h => ?_) (fun h => ?_)
     · have Ck : j < m := (en j o ho h).1 ((j6 j).2 (.inl rfl))
       have e : dD vars (S m) t = dD vars (S (j + 1)) t := by
        obtain ⟨d, rfl⟩ := n3 (show j + 1 <= m from Ck)
        refine T.slot (by omega) fun x p h1 h2 hp hd => ?_
        have vO : x ≠ j := by omega
        have al := (j6 x).1 ((en x p hp hd).2 h2)
        have a2 := (vN t (.inl h) x p hp hd vO).1 (al.resolve_left vO)
        omega
       rw [e]; exact p3 t h
     · refine (I.env t m hm fun i p hp hd => ?_).ext I.rel mT
       have cT : i ≠ j := fun e => by subst e; rw [ho] at hp; cases hp; exact h hd
       rw [<- en i p hp hd, j6]
       simp [cT]
   · have ah := (T.mj bj.bN (i := j + 1) (j := ops.size) hM (aK _)).1.low
     exact (I.ext m hm).trans (p2 m (by omega))
  by_cases ht : gm a1.op = true
  ·
   obtain ⟨F5, es, z, bytes, ln, ac, cV⟩ := RG jq fF ht
   rcases cp with ⟨hw, v, H1, b0, h1, aJ, lg⟩ | ⟨hw, -, -⟩
   case inr => rw [F5] at hw; simp [gP] at hw
   have xw : o.guard = none := by
    have := bd.guard
    rw [F5] at this
    cases bt : o.guard with
    | none => rfl
    | some p =>
      obtain ⟨q, b⟩ := p
      rw [bt] at this
      simp only [Ctx.guard] at this
      split at this <;> simp at this
   have F6 : C.op vars o.pos o.op = .mkSlice es z bytes ln ac := by rw [<- bd.op]; exact cV
   obtain ⟨e5, fp, c', ev, -⟩ := RD F6
   let gH : aj -> V := fun cv => open Classical in if cv ∈ a1.op.operands then aj.ag (S j).aE (S j).aw cv else .undef
   have aM : fh C fid vars ax aC gH al.eval := fun x cv hx => by
    by_cases hin : cv ∈ a1.op.operands
    · have tW := zX cv hin
      simp only [gH, hin, if_true]
      cases x with
      | tmp t =>
        simp only [Ctx.bV, aA] at hx
        have Lc : t ∈ Ctx.fq ops o := by rw [<- hx] at tW; split at tW <;> exact tW
        have := F4 t Lc
        have e : cv.ag (S j).aE (S j).aw = dD vars (S j) t := by rw [<- hx]; unfold dD; split <;> rfl
        rw [e]; exact this
      | const u =>
        simp only [Ctx.bV] at hx
        obtain ⟨Rw, kl, rfl⟩ := cD.1 hx
        rcases BR (I := ax.I) (w := aC) u kl with rfl | hp
        · exact .undef _
        · exact .p _ _ hp
      | func f => exact Kt bx hx
      | global g => simp [Ctx.bV] at hx
    · simp only [gH, hin, if_false]; exact .undef _
   rw [cV] at h1
   obtain ⟨k, bs, n, m, ah, e2, hb, sy⟩ := RF h1
   have zY : gH ln = .int k n := by
    have : ln ∈ a1.op.operands := by rw [cV]; simp [cH.operands]
    simp only [gH, this, if_true]; exact ah
   have abN : gH ac = .int bs m := by
    have : ac ∈ a1.op.operands := by rw [cV]; simp [cH.operands]
    simp only [gH, this, if_true]; exact e2
   obtain ⟨jE, e, cells, cf, qe, hu, pe⟩ := run_mk (w := aC) aM F6 zY abN hb
   refine RI ho xw (by rw [ev]; simp) cf ?_
   have fG := jL { S j with H := H1, low := min (S j).low b0 } a1.dst v
   have lr : ∀ t, o.dst = some t -> dD vars (S (j + 1)) t = v := fun t ht => by
    rw [aJ]
    rcases bd.dst with ⟨h2, -⟩ | ⟨d, -, h2, av⟩
    · rw [h2] at ht; cases ht
    · rw [h2] at ht; cases ht
      rw [av, Ce, if_pos rfl]
   rcases sy with ⟨mM, rfl, rfl, -⟩ | ⟨mM, rfl, RJ, -⟩
   · subst mM
     have ai : ∀ b, b < aC.heap.size -> (aC.alloc (.cells cells e)).heap[b]? = aC.heap[b]? := fun b hb => alloc_old hb
     refine xD _ _ ax (I.rel.restore (by simp) ai) (fun m _ => .restore (by simp) ai rfl rfl m _) (fun t ht => ?_) fun i hi ae _ dT => I.free i hi ae dT
     rw [lr t ht]; exact .p _ _ (.emp _)
   · have h8 : a8 j = true := by rw [lg, RJ]; simp [fJ]
     have re := I.free j hM h8 nz
     have abO : (S ops.size).H[(S j).H.length]? = some (.row es (List.replicate n.toNat (lO z)) false) := by
      obtain ⟨d, hd⟩ := n3 (show j + 1 <= ops.size from hM)
      rw [hd]
      refine Lp T bj.bN jq (by omega) _ _ ?_
      rw [aJ, fG.1, RJ]
      simp
     have abP : 0 < n.toNat := by omega
     have Lq := I.rel.place re abO (.cells cells e) n.toNat cells.size ⟨by simp, by simpa using abP, rfl, jE, hu, cells, e, cells.toList, [], oe _ _, rfl, by simp, pe _ _⟩
     refine xD _ _ _ Lq (fun m _ => .place re _ _ _ m (rb j (by omega))) (fun t ht => ?_) fun i hi ae cT dT => ?_
     · rw [lr t ht]
       refine .cQ _ _ 0 n.toNat n.toNat ⟨aC.heap.size, n.toNat, cells.size, false⟩ _ _ _ (de _ _ _) (aK _) (fun _ => ⟨by simp, rfl, ?_, aK _⟩)
       rw [qe, eF]; exact aK _
     · have bA : (S i).H.length ≠ (S j).H.length := by
        rcases gg i j with q | q
        · have := RH T bj.bN jq q hM ae; omega
        · have := RH T bj.bN jq (show j < i by omega) hi h8; omega
       show cg ax.β (S j).H.length _ (S i).H.length = _
       rw [dp bA]
       exact I.free i hi ae dT
  · have eu : gm a1.op = false := by simpa using ht
    have h8 : a8 j = false := by
     cases ae : a8 j with
     | false => rfl
     | true => have := cp.gm ae; rw [eu] at this; cases this
    refine xx (T := fun t => t ∈ Ctx.fq ops o) (Hc := (S ops.size).H) bx bj ho bd cp I.rel (fun q => absurd q ht) ?_ F4 zX (fun q want d bt hd => ?_) I.ox ?_
    · have ah := (T.mj bj.bN (i := 0) (j := j) (cx _) (by omega)).1.low
      have e2 := rb ops.size (aK _)
      rw [<- nK.2] at ah
      omega
    · simp only [Ctx.fq, jV]
      right
      rw [bt]
      simp only []
      rw [hd]; simp
    · intro x bB bq p1 p2 p3
      rw [h8] at p1
      refine xD x bB bq p1 (fun m hm => (p2 m hm).le (aK _) (rb ops.size (aK _))) p3 fun i hi ae cT dT => ?_
      have re := I.free i hi ae dT
      cases hb : bq.β (S i).H.length with
      | none => rfl
      | some h' =>
        exfalso
        rcases (p2 0 (cx _)).mI _ _ hb with ⟨h, eK, -⟩ | ⟨hge, -⟩
        · rw [re] at eK; cases eK
        · obtain ⟨d, hd⟩ := n3 (show i + 1 <= ops.size from hi)
          have h2 := (T.mj bj.bN (i := i + 1) (j := ops.size) hi (aK _)).1.len
          rcases Lo T bj.bN jq hi with ⟨q, -⟩ | ⟨-, o', q⟩
          · rw [ae] at q; cases q
          · rw [q] at h2; simp at h2; omega
 have key : ∀ (fuel : Nat) (L : Array Bool) (ax : bT) (al : Act) (aC : World), Cl C fid vars N ops S a8 G w a st.H.length L ax al aC -> (List.range ops.size).countP (fun i => !L.getD i false) <= fuel ->
   wpAnyIn (ek ro) 0 C.P .any ops Q fuel L al aC := by
  intro fuel
  induction fuel with
  | zero =>
    intro L ax al aC I hc
    have eo : ∀ i, i < ops.size -> L.getD i false = true := fun i hi => by
     have h1 := List.countP_eq_zero.1 (Nat.le_zero.1 hc) i (by simpa using hi)
     simpa using h1
    refine ⟨?_, mU _ _ _ _ I eo⟩
    cases hr : Region.ready .any ops L with
    | nil => rfl
    | cons i r =>
      obtain ⟨h1, o, ho, -⟩ := mem_ready.1 (show i ∈ Region.ready .any ops L by rw [hr]; simp)
      have hi : i < ops.size := (r1.1 ho).1
      have h2 := eo i hi
      have : i < L.size := by rw [I.size]; exact hi
      simp only [Array.getD, this, dif_pos] at h1 h2
      rw [h1] at h2; cases h2
  | succ fuel ih =>
    intro L ax al aC I hc
    refine ⟨fun hr => mU _ _ _ _ I (Ch _ _ _ _ I hr), fun j hj => sg fuel L ax al aC j I hj fun gS G' bf w' qd e => ih gS G' bf w' qd ?_⟩
    subst e
    obtain ⟨h1, o, ho, -⟩ := mem_ready.1 hj
    have hM : j < ops.size := (r1.1 ho).1
    have kN : j < L.size := by rw [I.size]; exact hM
    have aH : (List.range ops.size).countP (fun i => !(L.setIfInBounds j true).getD i false) < (List.range ops.size).countP (fun i => !L.getD i false) := by
     refine Lh (a := j) (fun x _ hx => ?_) (by simpa using hM) ?_ ?_
     · cases af : L.getD x false with
       | false => rfl
       | true =>
         have := (tY (i := x) kN).2 (.inr af)
         rw [this] at hx; cases hx
     · simp only [Array.getD, kN, dif_pos] at h1 ⊢; rw [h1]; rfl
     · have := (tY (i := j) kN).2 (.inl rfl)
       rw [this]; rfl
    omega
 refine wpIn_region_any cC ?_
 have hw : ({ w with drawn := w.drawn + 1 } : World).heap = w.heap := rfl
 have iA := (aa.clear).la hw
 rw [<- h0] at iA
 have iV : ∀ i, (Array.replicate ops.size false).getD i false = false := fun i => by
  by_cases h : i < ops.size
  · simp [h]
  · simp [h]
 refine key ops.size (Array.replicate ops.size false) G a { w with drawn := w.drawn + 1 } ⟨by simp, fun x hx => absurd hx (by rw [iV]; simp), iA.rel.longer fun l o hl => ?_, fun i hi ae _ => ?_, fun t m hm en => ?_, iA.size, rfl, fun m _ => Ext.la hw rfl rfl m _⟩ ?_
 · have := Lp T bj.bN jq (i := 0) (k := ops.size) (by omega) l o hl
   rw [eF] at this; exact this
 · exact aa.rel.none (rb i (by omega))
 · have e : dD vars (S m) t = dD vars (S 0) t := by
    have := T.slot (t := t) (i := 0) (k := m) (by omega) fun x p h1 h2 hp hd => by
     have := (en x p hp hd).2 (by omega)
     rw [iV] at this; cases this
    rw [eF] at this; exact this
   rw [e]; exact iA.env t
 · refine c4 List.countP_le_length (by simp)
end
end Go.Abs
