/- Texts of this claim, joined and written short by a program. -/
import Derived.Test.YtjgngmpmjbkbpaaGreatDoorP09
import Derived.Test.YtjgngmpmjbkbpaaGreatDoorP00
set_option linter.unusedVariables false
set_option linter.unusedSimpArgs false
set_option linter.unusedSectionVars false
namespace Go.Abs
open Go
variable {C : Ctx} {fid : Nat -> Nat} {w w' : World} {G G' : bT} {H H' : Heap}
def dD (vars : List Nat) (st : au) (t : Nat) : V := if vars.contains t then bJ st.aw t else bJ st.aE t
theorem Ru (e : Env) (t e5 : Nat) (v : V) : bJ (fR e t v) e5 = if e5 = t then v else bJ e e5 := by
 induction e with
 | nil =>
   by_cases h : e5 = t
   · subst h; simp [fR, bJ]
   · simp [fR, bJ, h, ki h]
 | cons p r ih =>
   obtain ⟨k, u⟩ := p
   simp only [fR]
   split
   · rename_i ai
     subst ai
     by_cases h : e5 = k
     · subst h; simp [bJ]
     · simp [bJ, h, ki h]
   · rename_i ai
     simp only [bJ]
     split
     · rename_i h
       rw [if_neg (by omega)]
     · exact ih
theorem Ce (vars : List Nat) (st : au) (d : Nat) (v : V) (t : Nat) : dD vars (st.put (some (d, vars.contains d)) v) t = if t = d then v else dD vars st t := by
 unfold dD
 cases hd : vars.contains d
 · simp only [au.put]
   by_cases h : t = d
   · subst h; rw [if_neg (by rw [hd]; exact Bool.false_ne_true), if_pos rfl]; simp [bJ]
   · rw [if_neg h]
     simp only [bJ, if_neg (ki h)]
 · simp only [au.put, Ru]
   by_cases h : t = d
   · subst h; simp only [hd, if_true]
   · simp only [if_neg h]
theorem K8 (a : Act) (d : Nat) (x : Value) (t : Nat) (hd : d < a.tmps.size) : (a.put (some d) x).tmps.getD t undef = if t = d then x else a.tmps.getD t undef := by
 simp only [Act.put]
 by_cases h : t = d
 · subst h; simp [Array.getD, hd]
 · rw [if_neg h]
   simp only [ve, Px (ki h)]
theorem vH (a : Act) (d : Option Tmp) (x : Value) : (a.put d x).tmps.size = a.tmps.size := by cases d <;> simp [Act.put]
theorem put_defers (a : Act) (d : Option Tmp) (x : Value) : (a.put d x).defers = a.defers := by cases d <;> simp [Act.put]
structure sv (C : Ctx) (vars : List Nat) (N : Nat) (ops : Array Oper) (o : Oper) (a1 : b3) : Prop where
 op : a1.op = C.op vars o.pos o.op
 dst : (o.dst = none /\ a1.dst = none) \/ ∃ d, d < N /\ o.dst = some d /\ a1.dst = some (d, vars.contains d)
 guard : Ctx.guard vars ops o.guard = some a1.guard
theorem zU {vars : List Nat} {N : Nat} {ops : Array Oper} {o : Oper} {a1 : b3} (h : C.oper vars N ops o = some a1) : sv C vars N ops o a1 := by
 unfold Ctx.oper at h
 split at h
 · rename_i g bt
   split at h
   · rename_i hd
     cases h
     exact ⟨rfl, .inl ⟨hd, rfl⟩, bt⟩
   · rename_i d hd
     split at h
     · rename_i aH
       cases h
       exact ⟨rfl, .inr ⟨d, aH, hd, rfl⟩, bt⟩
     · cases h
 · cases h
def mi (call : c3) (a1 : b3) (S lV : au) (a8 : Bool) : Prop :=
 (gP S.aE S.aw a1.guard = some true /\ ∃ v H' low', b9 call (aj.ag S.aE S.aw) S.H S.H.length a1.op = some (v, H', low') /\
   lV = ({ S with H := H', low := min S.low low' } : au).put a1.dst v /\ a8 = fJ S.H H' low') \/
 (gP S.aE S.aw a1.guard = some false /\ lV = S.put a1.dst (.ba []) /\ a8 = false)
theorem vI {call : c3} : ∀ (bz : List b3) (st aU : au) (wr e1 : List Bool), c9 call bz st wr = some (aU, e1) ->
  ∃ (S : Nat -> au) (a8 : Nat -> Bool), S 0 = st /\ S bz.length = aU /\ e1 = wr.reverse ++ (List.range bz.length).map a8 /\ ∀ i a1, bz[i]? = some a1 -> mi call a1 (S i) (S (i + 1)) (a8 i)
 | [], st, aU, wr, e1, he => by
   simp only [c9, aA, bw] at he
   obtain ⟨rfl, rfl⟩ := he
   exact ⟨fun _ => st, fun _ => false, rfl, rfl, by simp, fun i a1 h => by simp at h⟩
 | o :: r, st, aU, wr, e1, he => by
   have key : ∀ (bW : au) (b : Bool), mi call o st bW b -> c9 call r bW (b :: wr) = some (aU, e1) -> ∃ (S : Nat -> au) (a8 : Nat -> Bool), S 0 = st /\ S (o :: r).length = aU /\
     e1 = wr.reverse ++ (List.range (o :: r).length).map a8 /\ ∀ i a1, (o :: r)[i]? = some a1 -> mi call a1 (S i) (S (i + 1)) (a8 i) := fun bW b hs h => by
    obtain ⟨S, a8, h0, h1, h2, av⟩ := vI r _ _ _ _ h
    refine ⟨fun i => match i with | 0 => st | i + 1 => S i, fun i => match i with | 0 => b | i + 1 => a8 i, rfl, by simpa using h1, ?_, fun i a1 hi => ?_⟩
    · rw [h2, iv, List.range_succ_eq_map, eD, qR, List.reverse_cons, mb]
      rfl
    · cases i with
      | zero =>
        simp only [pV, aA] at hi
        subst hi
        simpa [h0] using hs
      | succ i => exact av i a1 (by simpa using hi)
   simp only [c9] at he
   split at he
   · rename_i hw
     split at he
     · rename_i v H1 b0 h1
       exact key _ _ (.inl ⟨hw, v, H1, b0, h1, rfl, rfl⟩) he
     · cases he
   · rename_i hw
     exact key _ _ (.inr ⟨hw, rfl, rfl⟩) he
   · cases he
mutual
theorem tV : ∀ a b : V, dN a b = true -> a = b
 | .bool a, .bool b, h => by simp only [dN, beq_iff_eq] at h; rw [h]
 | .int k n, .int bs m, h => by simp only [dN, cd, decide_eq_true_eq] at h; rw [h.1, h.2]
 | .str s, .str ar, h => by simp only [dN, decide_eq_true_eq] at h; rw [h]
 | .c0, .c0, _ => rfl
 | .emp, .emp, _ => rfl
 | .iM, .iM, _ => rfl
 | .hU, .hU, _ => rfl
 | .jB, .jB, _ => rfl
 | .iN, .iN, _ => rfl
 | .undef, .undef, _ => rfl
 | .list e ds, .list e' ds', h => by simp only [dN, cd, decide_eq_true_eq] at h; rw [h.1, sw _ _ h.2]
 | .agg a, .agg b, h => by simp only [dN] at h; rw [sw _ _ h]
 | .ba a, .ba b, h => by simp only [dN] at h; rw [sw _ _ h]
 | .ptr l o, .ptr fp o', h => by simp only [dN, cd, decide_eq_true_eq] at h; rw [h.1, h.2]
 | .gw a b c d e, .gw bf eE c' d' e', h => by simp only [dN, cd, decide_eq_true_eq] at h; rw [h.1, h.2.1, h.2.2.1, h.2.2.2.1, h.2.2.2.2]
 | .dB vs f, .dB vs' k7, h => by simp only [dN, cd, decide_eq_true_eq] at h; rw [sw _ _ h.1, h.2]
 | .cQ a b c d e, .cQ bf eE c' d' e', h => by simp only [dN, cd, decide_eq_true_eq] at h; rw [h.1, h.2.1, h.2.2.1, h.2.2.2.1, h.2.2.2.2]
 | .map l, .map fp, h => by simp only [dN, decide_eq_true_eq] at h; rw [h]
 | .yield l, .yield fp, h => by simp only [dN, decide_eq_true_eq] at h; rw [h]
 | .fn i a b, .fn w5 bf eE, h => by simp only [dN, cd, decide_eq_true_eq] at h; rw [h.1, sw _ _ h.2.1, sw _ _ h.2.2]
 | .iface t v, .iface e5 v', h => by simp only [dN, cd, decide_eq_true_eq] at h; rw [h.1, tV _ _ h.2]
theorem sw : ∀ a b : List V, mc a b = true -> a = b
 | [], [], _ => rfl
 | a :: r, b :: s, h => by simp only [mc, cd] at h; rw [tV _ _ h.1, sw _ _ h.2]
end
theorem K9 {call : c3} : ∀ (bz : List b3) (S : Nat -> au) (a8 : Nat -> Bool) (cB : List au), (∀ (i : Nat) a1, bz[i]? = some a1 -> mi call a1 (S i) (S (i + 1)) (a8 i)) -> gD call bz (S 0) = some cB ->
  ∀ k, k <= bz.length -> cB[k]? = some (S k)
 | [], S, a8, cB, hs, ht, k, ai => by
   simp only [gD, aA] at ht
   subst ht
   have : k = 0 := by simpa using ai
   subst this; rfl
 | o :: r, S, a8, cB, hs, ht, k, ai => by
   have h0 := hs 0 o rfl
   have Cf : ∀ q7, gD call r (S 1) = some q7 -> ∀ k, k <= r.length -> q7[k]? = some (S (k + 1)) := fun q7 h => K9 r (fun i => S (i + 1)) (fun i => a8 (i + 1)) q7 (fun i a1 hi => hs (i + 1) a1 (by simpa using hi)) h
   simp only [gD] at ht
   have fin : ∀ La, La = S 1 -> (gD call r La).map (S 0 :: ·) = some cB -> cB[k]? = some (S k) := fun La e h => by
    subst e
    obtain ⟨x, hx, rfl⟩ := cD.1 h
    cases k with
    | zero => rfl
    | succ k => simpa using Cf x hx k (by simpa using ai)
   rcases h0 with ⟨hw, v, H1, b0, h1, e, -⟩ | ⟨hw, e, -⟩
   · rw [hw] at ht
     simp only [h1] at ht
     exact fin _ e.symm ht
   · rw [hw] at ht
     simp only at ht
     exact fin _ e.symm ht
theorem mi.bN {call : c3} (hc : lU call) {a1 : b3} {S lV : au} {a8 : Bool} (h : mi call a1 S lV a8) : fU S lV := by
 rcases h with ⟨-, v, H1, b0, h1, rfl, -⟩ | ⟨-, rfl, -⟩
 · have hp := jL { S with H := H1, low := min S.low b0 } a1.dst v
   exact ⟨by rw [hp.1, hp.2.1]; exact (xu hc (aK _) h1).lift _, hp.2.2⟩
 · have hp := jL S a1.dst (.ba [])
   exact ⟨by rw [hp.1, hp.2.1]; exact .refl _ _, hp.2.2⟩
theorem mi.still {call : c3} (hc : lU call) {a1 : b3} {S lV : au} {a8 : Bool} (h : mi call a1 S lV a8) (ae : a8 = false) : lV.H = S.H := by
 rcases h with ⟨-, v, H1, b0, h1, rfl, h2⟩ | ⟨-, rfl, -⟩
 · have hp := jL { S with H := H1, low := min S.low b0 } a1.dst v
   rw [hp.1]; exact K2 (xu hc (aK _) h1) (h2.symm.trans ae)
 · exact (jL S a1.dst (.ba [])).1
theorem mi.gm {call : c3} {a1 : b3} {S lV : au} {a8 : Bool} (h : mi call a1 S lV a8) (ae : a8 = true) : gm a1.op = true := by
 rcases h with ⟨-, v, H1, b0, h1, rfl, h2⟩ | ⟨-, rfl, h2⟩
 · cases ht : Abs.gm a1.op with
   | true => rfl
   | false =>
     exfalso
     have bA : ∀ raw f args, a1.op ≠ .call raw f args := fun raw f args e => by rw [e] at ht; simp [Abs.gm] at ht
     rw [xt bA] at h1
     obtain ⟨rfl, rfl, -⟩ := Rq ht h1
     rw [ae] at h2
     simp [fJ] at h2
 · rw [h2] at ae; cases ae
theorem mi.look {call : c3} {vars : List Nat} {N : Nat} {ops : Array Oper} {o : Oper} {a1 : b3} {S lV : au} {a8 : Bool} (h : mi call a1 S lV a8) (fF : sv C vars N ops o a1) {t : Nat} (ht : o.dst ≠ some t) :
  dD vars lV t = dD vars S t := by
 have key : ∀ (st : au) (v : V), dD vars (st.put a1.dst v) t = dD vars st t := fun st v => by
  rcases fF.dst with ⟨-, h2⟩ | ⟨d, -, h1, h2⟩
  · rw [h2]; rfl
  · rw [h2, Ce, if_neg (fun e => ht (by rw [h1, e]))]
 rcases h with ⟨-, v, H1, b0, h1, rfl, -⟩ | ⟨-, rfl, -⟩
 · rw [key]; rfl
 · rw [key]
def F0 (T : Nat -> Prop) : aj -> Prop
 | .tmp t | .var t => T t
 | _ => True
theorem abz {vars : List Nat} {ops : Array Oper} {o : Oper} {gp : Option (aj × Bool)} (bt : Ctx.guard vars ops o.guard = some gp) {S : au} {a : Act} {b : Bool}
  (hs : ∀ j want d, o.guard = some (j, want) -> (ops[j]?).bind (·.dst) = some d -> bg fid G w (dD vars S d) (a.tmps.getD d undef)) (hw : gP S.aE S.aw gp = some b) :
  Region.wanted o (yielded ops a.tmps) = b := by
 unfold Region.wanted
 cases xw : o.guard with
 | none =>
   rw [xw] at bt
   simp only [Ctx.guard, aA] at bt
   subst bt
   simp only [gP, aA] at hw
   exact hw
 | some p =>
   obtain ⟨j, want⟩ := p
   rw [xw] at bt
   simp only [Ctx.guard] at bt
   split at bt
   · rename_i d hd
     simp only [aA] at bt
     subst bt
     have af := hs j want d xw hd
     have zV : ((if vars.contains d then aj.var d else aj.tmp d).ag S.aE S.aw) = dD vars S d := by
      unfold dD; split <;> rfl
     simp only [gP, zV] at hw
     have hy : yielded ops a.tmps j = match a.tmps.getD d undef with | .bool c => some c | _ => none := by
      unfold yielded
      rw [hd]
      simp only [aW, ve]
      cases a.tmps[d]? with
      | none => rfl
      | some x => cases x <;> rfl
     dsimp only
     rw [hy]
     split at hw
     · rename_i c hc
       rw [hc] at af
       rw [af.j1]
       simp only [aA] at hw
       rw [<- hw]
       cases c <;> cases want <;> rfl
     · rename_i hc
       rw [hc] at af
       obtain ⟨vals, hx, hr⟩ := af.Km
       rw [hx]
       simp only [aA] at hw
       rw [<- hw]
       rfl
     · cases hw
   · cases bt
theorem xx {vars : List Nat} {N : Nat} {ops : Array Oper} {o : Oper} {a1 : b3} {S lV : au} {a8 : Bool} {call : c3} {j : Nat} {Hc : Heap} {a : Act} {T : Nat -> Prop} {K : Act -> World -> Prop}
  {Q : Exit -> Act -> World -> Prop} {ro : Option Nat} (bx : eR C fid) (bj : gx C fid call) (ho : ops[j]? = some o) (fF : sv C vars N ops o a1) (cp : mi call a1 S lV a8)
  (aa : bb C fid G Hc w) (eZ : gm a1.op = true -> Hc = S.H \/ (a8 = false /\ (gP S.aE S.aw a1.guard = some true -> ∀ v H1 b0, b9 call (aj.ag S.aE S.aw) S.H S.H.length a1.op = some (v, H1, b0) -> ∃ H2 dv, b9 call (aj.ag S.aE S.aw) Hc Hc.length a1.op = some (v, H2, dv) /\ fJ Hc H2 dv = false))) (ix : S.low <= Hc.length)
  (ql : ∀ t, T t -> bg fid G w (dD vars S t) (a.tmps.getD t undef))
  (hT : ∀ x ∈ a1.op.operands, F0 T x) (abA : ∀ k want d, o.guard = some (k, want) -> (ops[k]?).bind (·.dst) = some d -> T d) (dP : a.tmps.size = N)
  (ow : ∀ x w' G', bb C fid G' (if a8 then lV.H else Hc) w' -> (∀ m, m <= lV.low -> Ext G w G' w' m Hc.length) -> (∀ t, o.dst = some t -> bg fid G' w' (dD vars lV t) x) -> K (a.put o.dst x) w') :
  wpOpIn (ek ro) 0 C.P ops Q j K a w := by
 have Rv : ∀ b, gP S.aE S.aw a1.guard = some b -> Region.wanted o (yielded ops a.tmps) = b := fun b hb =>
  abz (fid := fid) (G := G) (w := w) fF.guard (S := S) (a := a) (fun k want d h1 h2 => ql d (abA k want d h1 h2)) hb
 have lr : ∀ (st : au) (v : V) (t : Nat), o.dst = some t -> dD vars (st.put a1.dst v) t = v := fun st v t ht => by
  rcases fF.dst with ⟨h1, -⟩ | ⟨d, -, h1, h2⟩
  · rw [h1] at ht; cases ht
  · rw [h1] at ht; cases ht
    rw [h2, Ce, if_pos rfl]
 unfold wpOpIn
 rw [ho]
 rcases cp with ⟨hw, v, H1, b0, h1, rfl, lg⟩ | ⟨hw, rfl, lg⟩
 · simp only [Rv _ hw, if_true]
   refine ⟨fun _ _ => trivial, ?_⟩
   let gH : aj -> V := fun cv => open Classical in if cv ∈ a1.op.operands then aj.ag S.aE S.aw cv else .undef
   have Lb : ∀ H low, b9 call (aj.ag S.aE S.aw) H low a1.op = b9 call gH H low a1.op := fun H low => abv fun x hx => by simp [gH, hx]
   have aM : fh C fid vars G w gH a.eval := fun x cv hx => by
    by_cases hin : cv ∈ a1.op.operands
    · have tW := hT cv hin
      simp only [gH, hin, if_true]
      cases x with
      | tmp t =>
        simp only [Ctx.bV, aA] at hx
        have Lc : T t := by rw [<- hx] at tW; split at tW <;> exact tW
        have := ql t Lc
        have e : cv.ag S.aE S.aw = dD vars S t := by rw [<- hx]; unfold dD; split <;> rfl
        rw [e]; exact this
      | const u =>
        simp only [Ctx.bV] at hx
        obtain ⟨Rw, kl, rfl⟩ := cD.1 hx
        rcases BR (I := G.I) (w := w) u kl with rfl | hp
        · exact .undef _
        · exact .p _ _ hp
      | func f => exact Kt bx hx
      | global g => simp [Ctx.bV] at hx
    · simp only [gH, hin, if_false]; exact .undef _
   have abB : o.semAt (ek ro).round a.eval = execOp a.eval o := Oper.semAt_eq _ _ _ fun c hc => by
    rw [fF.op, hc] at h1
    simp [Ctx.op, Ctx.cI, b9, step] at h1
   rw [abB]
   have fG := jL { S with H := H1, low := min S.low b0 } a1.dst v
   by_cases ht : gm a1.op = true
   · rcases eZ ht with e | ⟨abC, eo⟩
     case inr =>
      obtain ⟨H2, dv, h2, Ld⟩ := eo hw v H1 b0 h1
      have abD := xu bj.bN (aK _) h2
      have F1 := K2 abD Ld
      have xy : Hc.length <= dv := by
       unfold fJ at Ld
       simp only [JH, decide_eq_false_iff_not] at Ld
       omega
      rw [F1] at h2
      rw [Lb, fF.op] at h2
      refine K3 (R := kM C fid G Hc w v Hc dv) (fun x bB hp => ?_) (K5 bx bj aa aM (aK _) h2)
      obtain ⟨bq, p1, p2, p3⟩ := hp
      refine ow x bB bq (by rw [abC]; exact p1) (fun m hm => p2 m ?_) (fun t ht => by rw [lr _ _ _ ht]; exact p3)
      rw [fG.2.1] at hm
      have : m <= S.low := c4 hm (jA _ _)
      omega
     subst e
     rw [Lb, fF.op] at h1
     refine K3 (R := kM C fid G S.H w v H1 b0) (fun x bB hp => ?_) (K5 bx bj aa aM (aK _) h1)
     obtain ⟨bq, p1, p2, p3⟩ := hp
     refine ow x bB bq ?_ (fun m hm => p2 m (by rw [fG.2.1] at hm; exact c4 hm (asU _ _))) (fun t ht => by rw [lr _ _ _ ht]; exact p3)
     rw [fG.1]
     cases a8 with
     | true => exact p1
     | false =>
       have := K2 (xu bj.bN (aK _) h1) lg.symm
       rw [this] at p1
       exact p1
   · have eu : gm a1.op = false := by simpa using ht
     have bA : ∀ raw f args, a1.op ≠ .call raw f args := fun raw f args e => by rw [e] at eu; simp [gm] at eu
     have Rx := h1
     rw [xt bA] at Rx
     obtain ⟨rfl, rfl, eo⟩ := Rq eu Rx
     have abE : a8 = false := by rw [lg]; simp [fJ]
     have h2 := eo Hc Hc.length
     rw [<- xt (call := call) bA, Lb, fF.op] at h2
     refine K3 (R := kM C fid G Hc w v Hc Hc.length) (fun x bB hp => ?_) (K5 bx bj aa aM (aK _) h2)
     obtain ⟨bq, p1, p2, p3⟩ := hp
     refine ow x bB bq (by rw [abE]; exact p1) (fun m hm => p2 m ?_) (fun t ht => by rw [lr _ _ _ ht]; exact p3)
     rw [fG.2.1] at hm
     have : m <= S.low := c4 hm (jA _ _)
     omega
 · have := Rv _ hw
   dsimp only
   rw [if_neg (by rw [this]; simp)]
   refine ⟨fun _ _ => trivial, ?_⟩
   refine ow undef w G ?_ (fun m _ => .refl _ _ _ _) (fun t ht => ?_)
   · rw [lg]; exact aa
   · rw [lr _ _ _ ht]; exact .ba [] [] .nil
end Go.Abs
namespace Go.Abs
open Go
variable {C : Ctx} {fid : Nat -> Nat} {w w' : World} {G G' : bT} {H H' : Heap}
structure dx (C : Ctx) (fid : Nat -> Nat) (vars : List Nat) (N : Nat) (G : bT) (st : au) (a : Act) (w : World) : Prop where
 rel : bb C fid G st.H w
 env : ∀ t, bg fid G w (dD vars st t) (a.tmps.getD t undef)
 size : a.tmps.size = N
 low : st.low <= st.H.length
structure j5 (C : Ctx) (vars : List Nat) (N : Nat) (ops : Array Oper) (bz : List b3) (call : c3) (S : Nat -> au) (a8 : Nat -> Bool) : Prop where
 len : bz.length = ops.size
 ok : ∀ (i : Nat) o a1, ops[i]? = some o -> bz[i]? = some a1 -> sv C vars N ops o a1
 step : ∀ (i : Nat) a1, bz[i]? = some a1 -> mi call a1 (S i) (S (i + 1)) (a8 i)
section
variable {vars : List Nat} {N : Nat} {ops : Array Oper} {bz : List b3} {call : c3} {S : Nat -> au} {a8 : Nat -> Bool}
theorem j5.get (h : j5 C vars N ops bz call S a8) {i : Nat} (hi : i < ops.size) : ∃ o a1, ops[i]? = some o /\ bz[i]? = some a1 /\ sv C vars N ops o a1 /\ mi call a1 (S i) (S (i + 1)) (a8 i) := by
 have h1 : ops[i]? = some ops[i] := by simp [hi]
 have h2 : bz[i]? = some (bz[i]'(by rw [h.len]; exact hi)) := by simp
 exact ⟨_, _, h1, h2, h.ok i _ _ h1 h2, h.step i _ h2⟩
theorem j5.of (hm : dH (C.oper vars N ops) ops.toList = some bz) (hs : ∀ (i : Nat) a1, bz[i]? = some a1 -> mi call a1 (S i) (S (i + 1)) (a8 i)) : j5 C vars N ops bz call S a8 :=
 ⟨by rw [tN _ hm]; simp, fun i o a1 h1 h2 => zU (tO _ hm (by rw [iK]; exact h1) h2), hs⟩
theorem j5.bN (h : j5 C vars N ops bz call S a8) (hc : lU call) {i : Nat} : ∀ {k : Nat}, i + k <= ops.size -> fU (S i) (S (i + k))
 | 0, _ => .refl _
 | k + 1, ai => by
   obtain ⟨o, a1, -, -, -, hs⟩ := h.get (i := i + k) (by omega)
   exact (h.bN hc (k := k) (by omega)).trans (hs.bN hc)
theorem j5.mj (h : j5 C vars N ops bz call S a8) (hc : lU call) {i j : Nat} (cT : i <= j) (hj : j <= ops.size) : fU (S i) (S j) := by
 obtain ⟨k, rfl⟩ := n3 cT
 exact h.bN hc hj
theorem j5.heap (h : j5 C vars N ops bz call S a8) (hc : lU call) {i : Nat} : ∀ {k : Nat}, i + k <= ops.size -> (∀ x, i <= x -> x < i + k -> a8 x = false) -> (S (i + k)).H = (S i).H
 | 0, _, _ => rfl
 | k + 1, ai, ae => by
   obtain ⟨o, a1, -, -, -, hs⟩ := h.get (i := i + k) (by omega)
   have := hs.still hc (ae (i + k) (by omega) (by omega))
   exact this.trans (h.heap hc (k := k) (by omega) fun x h1 h2 => ae x h1 (by omega))
theorem j5.slot (h : j5 C vars N ops bz call S a8) {t : Nat} {i : Nat} : ∀ {k : Nat}, i + k <= ops.size -> (∀ (x : Nat) o, i <= x -> x < i + k -> ops[x]? = some o -> o.dst ≠ some t) -> dD vars (S (i + k)) t = dD vars (S i) t
 | 0, _, _ => rfl
 | k + 1, ai, ae => by
   obtain ⟨o, a1, ho, -, bd, hs⟩ := h.get (i := i + k) (by omega)
   have := hs.look (t := t) bd (ae (i + k) o (by omega) (by omega) ho)
   exact this.trans (h.slot (k := k) (by omega) fun x o h1 h2 => ae x o h1 (by omega))
theorem abF (vars : List Nat) (st : au) (t : Nat) : dD vars { st with aE := [] } t = dD vars st t \/ dD vars { st with aE := [] } t = .undef := by
 unfold dD
 split
 · exact .inl rfl
 · exact .inr rfl
theorem dx.clear {st : au} {a : Act} (h : dx C fid vars N G st a w) : dx C fid vars N G { st with aE := [] } a w :=
 ⟨h.rel, fun t => by rcases abF vars st t with e | e <;> rw [e]; exact h.env t; exact .undef _, h.size, h.low⟩
theorem dx.la {st : au} {a : Act} (h : dx C fid vars N G st a w) (e : w'.heap = w.heap) : dx C fid vars N G st a w' :=
 ⟨h.rel.la e, fun t => (h.env t).mono (.refl _) fun b hb => ⟨hb, by rw [e]⟩, h.size, h.low⟩
theorem xz {o : Oper} {a : Act} {x : Value} {t : Nat} {bq : bT} {bB : World} (hd : ∀ d, o.dst = some d -> d < a.tmps.size) {v : V} (h1 : o.dst = some t -> bg fid bq bB v x)
  (h2 : o.dst ≠ some t -> bg fid bq bB v (a.tmps.getD t undef)) : bg fid bq bB v ((a.put o.dst x).tmps.getD t undef) := by
 cases zW : o.dst with
 | none => simp only [Act.put]; exact h2 (by rw [zW]; simp)
 | some d =>
   rw [K8 _ _ _ _ (hd d zW)]
   by_cases e : t = d
   · subst e; rw [if_pos rfl]; exact h1 zW
   · rw [if_neg e]; exact h2 (by rw [zW]; simpa using ki e)
theorem sv.lt {o : Oper} {a1 : b3} (h : sv C vars N ops o a1) : ∀ d, o.dst = some d -> d < N := fun d hd => by
 rcases h.dst with ⟨h1, -⟩ | ⟨d', h0, h1, -⟩
 · rw [h1] at hd; cases hd
 · rw [h1] at hd; cases hd; exact h0
theorem abG {id : Nat} {st aU : au} {wr : List Bool} {a : Act} {Q : Exit -> Act -> World -> Prop} {ro : Option Nat} (bx : eR C fid) (bj : gx C fid call) (hm : dH (C.oper vars N ops) ops.toList = some bz)
  (he : c9 call bz { st with aE := [] } [] = some (aU, wr)) (aa : dx C fid vars N G st a w)
  (dy : ∀ G' bf w', dx C fid vars N G' aU bf w' -> (∀ m, m <= aU.low -> Ext G w G' w' m st.H.length) -> bf.defers = a.defers -> Q .normal bf w') :
  (Code.region id ops false).wpIn (ek ro) 0 C.P Q a w := by
 obtain ⟨S, a8, h0, hn, -, hs⟩ := vI _ _ _ _ _ he
 have T : j5 C vars N ops bz call S a8 := .of hm hs
 have key : ∀ k j, j + k = ops.size -> ∀ ax al aC, dx C fid vars N ax (S j) al aC -> (∀ m, m <= (S j).low -> Ext G w ax aC m st.H.length) -> al.defers = a.defers -> st.H.length <= (S j).H.length ->
   wpOpsIn (ek ro) 0 C.P ops Q (List.range' j k) al aC := by
  intro k
  induction k with
  | zero =>
    intro j hj ax al aC bG ch eL _
    have e : j = bz.length := by rw [T.len]; omega
    subst e
    rw [hn] at bG ch
    exact dy ax al aC bG ch eL
  | succ k ih =>
    intro j hj ax al aC bG ch eL gq
    obtain ⟨o, a1, ho, fF, bd, cp⟩ := T.get (i := j) (by omega)
    rw [th, wpOpsIn_cons]
    have eT := cp.bN bj.bN
    refine xx (T := fun _ => True) bx bj ho bd cp bG.rel (fun _ => .inl rfl) bG.low (fun t _ => bG.env t) (fun x _ => by cases x <;> trivial) (fun _ _ _ _ _ => trivial) bG.size ?_
    intro x bB bq p1 p2 p3
    have xA : bb C fid bq (S (j + 1)).H bB := by
     cases ae : a8 j with
     | true => rw [ae] at p1; exact p1
     | false => rw [ae] at p1; rw [cp.still bj.bN ae]; exact p1
    have mT := p2 0 (cx _)
    refine ih (j + 1) (by omega) bq _ bB ⟨xA, fun t => ?_, by rw [vH]; exact bG.size, eT.bound bG.low⟩ (fun m hm => (ch m (c4 hm eT.1.low)).trans ((p2 m hm).le (aK _) gq)) (by rw [put_defers]; exact eL)
     (c4 gq eT.1.len)
    refine xz (fun d hd => by rw [bG.size]; exact bd.lt d hd) (fun h => p3 t h) (fun h => ?_)
    rw [cp.look bd h]
    exact (bG.env t).ext bG.rel mT
 refine wpIn_region ?_
 rw [Fa]
 have iA := aa.clear
 rw [<- h0] at iA
 exact key ops.size 0 (by omega) G a w iA (fun m _ => .refl _ _ _ _) rfl (by rw [h0]; exact aK _)
theorem Ry : ∀ (l : List Oper) (A : Array Nat), let B := l.foldl (fun acc o => acc.push (CheckFast.one (fun i => acc.getD i 0) o)) A
  B.size = A.size + l.length /\ (∀ i, i < A.size -> B.getD i 0 = A.getD i 0) /\ ∀ k o, l[k]? = some o -> B.getD (A.size + k) 0 = CheckFast.one (fun i => if i < A.size + k then B.getD i 0 else 0) o
 | [], A => ⟨by simp, fun _ _ => rfl, fun k o h => by simp at h⟩
 | o :: l, A => by
   intro B
   obtain ⟨h1, h2, av⟩ := Ry l (A.push (CheckFast.one (fun i => A.getD i 0) o))
   have dC : B = l.foldl (fun acc o => acc.push (CheckFast.one (fun i => acc.getD i 0) o)) (A.push (CheckFast.one (fun i => A.getD i 0) o)) := rfl
   rw [<- dC] at h1 h2 av
   simp only [Array.size_push] at h1 h2 av
   have hA : ∀ i, i < A.size -> B.getD i 0 = A.getD i 0 := fun i hi => by
    rw [h2 i (by omega)]
    simp only [ve, Array.getElem?_push, if_neg (p5 hi)]
   refine ⟨by simp only [iv]; omega, hA, fun k p ai => ?_⟩
   cases k with
   | zero =>
     simp only [pV, aA] at ai
     subst ai
     rw [zr, h2 A.size (by omega)]
     simp only [ve, Array.getElem?_push, if_pos, vg]
     congr 1
     funext i
     by_cases hi : i < A.size
     · rw [if_pos hi]
       have := hA i hi
       simp only [ve] at this
       exact this.symm
     · rw [if_neg hi]; simp [E8 (Nat.le_of_not_lt hi)]
   | succ k =>
     have := av k p (by simpa using ai)
     rw [Fb] at this
     rw [<- p4]
     exact this
theorem abH {look : Nat -> Nat} {o : Oper} {i : Nat} (h : (CheckFast.one look o).testBit i = true) : ∃ e ∈ o.after, Region.binds .any e = true /\ (i = e.on \/ (look e.on).testBit i = true) := by
 unfold CheckFast.one at h
 rw [<- PH] at h
 have key : ∀ (l : List Edge) (s : Nat), (l.foldl (fun s e => if Region.binds .any e then s ||| 2 ^ e.on ||| look e.on else s) s).testBit i = true -> s.testBit i = true \/ ∃ e ∈ l, Region.binds .any e = true /\ (i = e.on \/ (look e.on).testBit i = true) := by
  intro l
  induction l with
  | nil => exact fun s h => .inl h
  | cons e l ih =>
    intro s h
    rw [vi] at h
    rcases ih _ h with h1 | ⟨e', asP, h2⟩
    · split at h1
      · rename_i hb
        rw [Nat.testBit_or, Nat.testBit_or, Nat.testBit_two_pow] at h1
        simp only [kG, decide_eq_true_eq] at h1
        rcases h1 with (h1 | h1) | h1
        · exact .inl h1
        · exact .inr ⟨e, by simp, hb, .inl h1.symm⟩
        · exact .inr ⟨e, by simp, hb, .inr h1⟩
      · exact .inl h1
    · exact .inr ⟨e', by simp [asP], h2⟩
 rcases key _ _ h with h1 | ⟨e, he, h2⟩
 · simp at h1
 · exact ⟨e, Array.mem_toList_iff.1 he, h2⟩
theorem Le {ops : Array Oper} {j i : Nat} {o : Oper} (ho : ops[j]? = some o) (h : ((CheckFast.beforeF ops).getD j 0).testBit i = true) :
  ∃ e ∈ o.after, Region.binds .any e = true /\ (i = e.on \/ ((CheckFast.beforeF ops).getD e.on 0).testBit i = true) := by
 rw [CheckFast.beforeF_eq] at h ⊢
 have hb := Ry ops.toList #[]
 have e : Region.before ops = ops.toList.foldl (fun acc o => acc.push (CheckFast.one (fun i => acc.getD i 0) o)) #[] := by
  unfold Region.before; rw [<- PH]; rfl
 rw [<- e] at hb
 have av := hb.2.2 j o (by rw [iK]; exact ho)
 rw [zm, qQ, eF] at av
 rw [av] at h
 obtain ⟨x, hx, Rz, bc⟩ := abH h
 refine ⟨x, hx, Rz, bc.imp id fun h5 => ?_⟩
 split at h5
 · exact h5
 · simp at h5
theorem Lf (h : Ctx.w8 ops = true) {i j : Nat} {o p : Oper} (ho : ops[j]? = some o) (hp : ops[i]? = some p) {d : Nat} (hd : p.dst = some d) (cT : i ≠ j) (hn : o.dst = some d \/ d ∈ Ctx.fq ops o) :
  ((CheckFast.beforeF ops).getD (max i j) 0).testBit (min i j) = true := by
 unfold Ctx.w8 at h
 simp only [fo] at h
 have h1 := h (o, j) (ma.2 (by rw [iK]; exact ho)) (p, i) (ma.2 (by rw [iK]; exact hp))
 simp only [hd] at h1
 simp only [kG, beq_iff_eq, pZ, JH, beq_eq_false_iff_ne, List.contains_eq_mem, decide_eq_false_iff_not] at h1
 rcases h1 with (h1 | ⟨h1, h2⟩) | h1
 · exact absurd h1 cT
 · rcases hn with hn | hn
   · exact absurd hn h1
   · exact absurd hn h2
 · exact h1
theorem Lg (h : Ctx.w7 ops = true) {j : Nat} {o : Oper} (ho : ops[j]? = some o) {e : Edge} (he : e ∈ o.after) (hb : Region.binds .any e = true) : e.on < j := by
 unfold Ctx.w7 at h
 simp only [fo] at h
 have h1 := h (o, j) (ma.2 (by rw [iK]; exact ho))
 simp only [Array.all_eq_true_iff_forall_mem] at h1
 have h2 := h1 e he
 unfold Region.binds at hb
 cases bt : e.ground <;> simp_all
theorem Lh {l : List Nat} {p q : Nat -> Bool} (xB : ∀ x ∈ l, p x = true -> q x = true) {a : Nat} (ao : a ∈ l) (bD : q a = true) (hp : p a = false) : l.countP p < l.countP q := by
 induction l with
 | nil => cases ao
 | cons x l ih =>
   have hle : l.countP p <= l.countP q := List.countP_mono_left fun y hy => xB y (by simp [hy])
   rw [List.countP_cons, List.countP_cons]
   rcases dS.1 ao with rfl | gF
   · rw [hp, bD]; simp; omega
   · have := ih (fun y hy => xB y (by simp [hy])) gF
     have h2 := xB x (by simp)
     cases hx : p x
     · simp only [gX, if_false]; split <;> omega
     · rw [h2 hx]; simp; omega
end
end Go.Abs
