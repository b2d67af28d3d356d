/- Regions: the executor's order, and every order that the edges allow. -/
import Derived.Test.YteiajndkjnlmiaaGreatDoorXeRun
set_option linter.unusedVariables false
set_option linter.unusedSimpArgs false
namespace Go.Abs
open Go
variable {C : Ctx} {fid : Nat → Nat} {w w' : World} {G G' : Gh} {H H' : Heap}

/-! ### slots -/

def lookS (vars : List Nat) (st : St) (t : Nat) : V := if vars.contains t then lookupE st.vE t else lookupE st.tE t

theorem lookupE_setE (e : Env) (t t' : Nat) (v : V) : lookupE (setE e t v) t' = if t' = t then v else lookupE e t' := by
  induction e with
  | nil =>
    by_cases h : t' = t
    · subst h; simp [setE, lookupE]
    · simp [setE, lookupE, h, Ne.symm h]
  | cons p r ih =>
    obtain ⟨k, u⟩ := p
    simp only [setE]
    split
    · rename_i hk
      subst hk
      by_cases h : t' = k
      · subst h; simp [lookupE]
      · simp [lookupE, h, Ne.symm h]
    · rename_i hk
      simp only [lookupE]
      split
      · rename_i h
        rw [if_neg (by omega)]
      · exact ih

theorem lookS_put (vars : List Nat) (st : St) (d : Nat) (v : V) (t : Nat) : lookS vars (st.put (some (d, vars.contains d)) v) t = if t = d then v else lookS vars st t := by
  unfold lookS
  cases hd : vars.contains d
  · simp only [St.put]
    by_cases h : t = d
    · subst h; rw [if_neg (by rw [hd]; exact Bool.false_ne_true), if_pos rfl]; simp [lookupE]
    · rw [if_neg h]
      simp only [lookupE, if_neg (Ne.symm h)]
  · simp only [St.put, lookupE_setE]
    by_cases h : t = d
    · subst h; simp only [hd, if_true]
    · simp only [if_neg h]

theorem lookS_set (vars : List Nat) (st : St) (H : Heap) (low : Nat) : lookS vars { st with H := H, low := low } = lookS vars st := rfl

theorem getD_put (a : Act) (d : Nat) (x : Value) (t : Nat) (hd : d < a.tmps.size) : (a.put (some d) x).tmps.getD t undef = if t = d then x else a.tmps.getD t undef := by
  simp only [Act.put]
  by_cases h : t = d
  · subst h; simp [Array.getD, hd]
  · rw [if_neg h]
    simp only [Array.getD_eq_getD_getElem?, Array.getElem?_setIfInBounds_ne (Ne.symm h)]

theorem put_size (a : Act) (d : Option Tmp) (x : Value) : (a.put d x).tmps.size = a.tmps.size := by cases d <;> simp [Act.put]
theorem put_defers (a : Act) (d : Option Tmp) (x : Value) : (a.put d x).defers = a.defers := by cases d <;> simp [Act.put]

/-! ### what an operation of the program has become -/

structure OperOk (C : Ctx) (vars : List Nat) (N : Nat) (ops : Array Oper) (o : Oper) (ao : AOper) : Prop where
  op : ao.op = C.op vars o.pos o.op
  dst : (o.dst = none ∧ ao.dst = none) ∨ ∃ d, d < N ∧ o.dst = some d ∧ ao.dst = some (d, vars.contains d)
  guard : Ctx.guard vars ops o.guard = some ao.guard

theorem oper_ok {vars : List Nat} {N : Nat} {ops : Array Oper} {o : Oper} {ao : AOper} (h : C.oper vars N ops o = some ao) : OperOk C vars N ops o ao := by
  unfold Ctx.oper at h
  split at h
  · rename_i g hg
    split at h
    · rename_i hd
      cases h
      exact ⟨rfl, .inl ⟨hd, rfl⟩, hg⟩
    · rename_i d hd
      split at h
      · rename_i hlt
        cases h
        exact ⟨rfl, .inr ⟨d, hlt, hd, rfl⟩, hg⟩
      · cases h
  · cases h

/-- One operation of the executor. -/
def OpStep (call : CallT) (ao : AOper) (S S' : St) (fl : Bool) : Prop :=
  (wantedA S.tE S.vE ao.guard = some true ∧ ∃ v H' low', stepC call (Opd.ev S.tE S.vE) S.H S.H.length ao.op = some (v, H', low') ∧
    S' = ({ S with H := H', low := min S.low low' } : St).put ao.dst v ∧ fl = movedH S.H H' low') ∨
  (wantedA S.tE S.vE ao.guard = some false ∧ S' = S.put ao.dst (.tup []) ∧ fl = false)

theorem execOps_trace {call : CallT} : ∀ (aops : List AOper) (st st' : St) (wr wr' : List Bool), execOps call aops st wr = some (st', wr') →
    ∃ (S : Nat → St) (fl : Nat → Bool), S 0 = st ∧ S aops.length = st' ∧ wr' = wr.reverse ++ (List.range aops.length).map fl ∧ ∀ i ao, aops[i]? = some ao → OpStep call ao (S i) (S (i + 1)) (fl i)
  | [], st, st', wr, wr', he => by
    simp only [execOps, Option.some.injEq, Prod.mk.injEq] at he
    obtain ⟨rfl, rfl⟩ := he
    exact ⟨fun _ => st, fun _ => false, rfl, rfl, by simp, fun i ao h => by simp at h⟩
  | o :: r, st, st', wr, wr', he => by
    have key : ∀ (st1 : St) (b : Bool), OpStep call o st st1 b → execOps call r st1 (b :: wr) = some (st', wr') → ∃ (S : Nat → St) (fl : Nat → Bool), S 0 = st ∧ S (o :: r).length = st' ∧
        wr' = wr.reverse ++ (List.range (o :: r).length).map fl ∧ ∀ i ao, (o :: r)[i]? = some ao → OpStep call ao (S i) (S (i + 1)) (fl i) := fun st1 b hs h => by
      obtain ⟨S, fl, h0, h1, h2, h3⟩ := execOps_trace r _ _ _ _ h
      refine ⟨fun i => match i with | 0 => st | i + 1 => S i, fun i => match i with | 0 => b | i + 1 => fl i, rfl, by simpa using h1, ?_, fun i ao hi => ?_⟩
      · rw [h2, List.length_cons, List.range_succ_eq_map, List.map_cons, List.map_map, List.reverse_cons, List.append_assoc]
        rfl
      · cases i with
        | zero =>
          simp only [List.getElem?_cons_zero, Option.some.injEq] at hi
          subst hi
          simpa [h0] using hs
        | succ i => exact h3 i ao (by simpa using hi)
    simp only [execOps] at he
    split at he
    · rename_i hw
      split at he
      · rename_i v H1 low1 h1
        exact key _ _ (.inl ⟨hw, v, H1, low1, h1, rfl, rfl⟩) he
      · cases he
    · rename_i hw
      exact key _ _ (.inr ⟨hw, rfl, rfl⟩) he
    · cases he

theorem OpStep.fr {call : CallT} (hc : CallFr call) {ao : AOper} {S S' : St} {fl : Bool} (h : OpStep call ao S S' fl) : FrS S S' := by
  rcases h with ⟨-, v, H1, low1, h1, rfl, -⟩ | ⟨-, rfl, -⟩
  · have hp := put_H { S with H := H1, low := min S.low low1 } ao.dst v
    exact ⟨by rw [hp.1, hp.2.1]; exact (stepC_fr hc (Nat.le_refl _) h1).lift _, hp.2.2⟩
  · have hp := put_H S ao.dst (.tup [])
    exact ⟨by rw [hp.1, hp.2.1]; exact .refl _ _, hp.2.2⟩

theorem OpStep.still {call : CallT} (hc : CallFr call) {ao : AOper} {S S' : St} {fl : Bool} (h : OpStep call ao S S' fl) (hf : fl = false) : S'.H = S.H := by
  rcases h with ⟨-, v, H1, low1, h1, rfl, h2⟩ | ⟨-, rfl, -⟩
  · have hp := put_H { S with H := H1, low := min S.low low1 } ao.dst v
    rw [hp.1]; exact movedH_false (stepC_fr hc (Nat.le_refl _) h1) (h2.symm.trans hf)
  · exact (put_H S ao.dst (.tup [])).1

theorem OpStep.touches {call : CallT} {ao : AOper} {S S' : St} {fl : Bool} (h : OpStep call ao S S' fl) (hf : fl = true) : touches ao.op = true := by
  rcases h with ⟨-, v, H1, low1, h1, rfl, h2⟩ | ⟨-, rfl, h2⟩
  · cases ht : Abs.touches ao.op with
    | true => rfl
    | false =>
      exfalso
      have hne : ∀ raw f args, ao.op ≠ .call raw f args := fun raw f args e => by rw [e] at ht; simp [Abs.touches] at ht
      rw [stepC_eq hne] at h1
      obtain ⟨rfl, rfl, -⟩ := step_still ht h1
      rw [hf] at h2
      simp [movedH] at h2
  · rw [h2] at hf; cases hf

theorem OpStep.look {call : CallT} {vars : List Nat} {N : Nat} {ops : Array Oper} {o : Oper} {ao : AOper} {S S' : St} {fl : Bool} (h : OpStep call ao S S' fl) (hao : OperOk C vars N ops o ao) {t : Nat} (ht : o.dst ≠ some t) :
    lookS vars S' t = lookS vars S t := by
  have key : ∀ (st : St) (v : V), lookS vars (st.put ao.dst v) t = lookS vars st t := fun st v => by
    rcases hao.dst with ⟨-, h2⟩ | ⟨d, -, h1, h2⟩
    · rw [h2]; rfl
    · rw [h2, lookS_put, if_neg (fun e => ht (by rw [h1, e]))]
  rcases h with ⟨-, v, H1, low1, h1, rfl, -⟩ | ⟨-, rfl, -⟩
  · rw [key]; rfl
  · rw [key]

/-! ### one operation -/

/-- What an operation may see. -/
def seenO (T : Nat → Prop) : Opd → Prop
  | .tmp t | .var t => T t
  | _ => True

theorem guard_rel {vars : List Nat} {ops : Array Oper} {o : Oper} {ag : Option (Opd × Bool)} (hg : Ctx.guard vars ops o.guard = some ag) {S : St} {a : Act} {b : Bool}
    (hs : ∀ j want d, o.guard = some (j, want) → (ops[j]?).bind (·.dst) = some d → VRel fid G w (lookS vars S d) (a.tmps.getD d undef)) (hw : wantedA S.tE S.vE ag = some b) :
    Region.wanted o (yielded ops a.tmps) = b := by
  unfold Region.wanted
  cases hog : o.guard with
  | none =>
    rw [hog] at hg
    simp only [Ctx.guard, Option.some.injEq] at hg
    subst hg
    simp only [wantedA, Option.some.injEq] at hw
    exact hw
  | some p =>
    obtain ⟨j, want⟩ := p
    rw [hog] at hg
    simp only [Ctx.guard] at hg
    split at hg
    · rename_i d hd
      simp only [Option.some.injEq] at hg
      subst hg
      have hv := hs j want d hog hd
      have hev : ((if vars.contains d then Opd.var d else Opd.tmp d).ev S.tE S.vE) = lookS vars S d := by
        unfold lookS; split <;> rfl
      simp only [wantedA, hev] at hw
      have hy : yielded ops a.tmps j = match a.tmps.getD d undef with | .bool c => some c | _ => none := by
        unfold yielded
        rw [hd]
        simp only [Option.bind_some, Array.getD_eq_getD_getElem?]
        cases a.tmps[d]? with
        | none => rfl
        | some x => cases x <;> rfl
      dsimp only
      rw [hy]
      split at hw
      · rename_i c hc
        rw [hc] at hv
        rw [hv.boolInv]
        simp only [Option.some.injEq] at hw
        rw [← hw]
        cases c <;> cases want <;> rfl
      · rename_i hc
        rw [hc] at hv
        obtain ⟨vals, hx, hr⟩ := hv.tupInv
        rw [hx]
        simp only [Option.some.injEq] at hw
        rw [← hw]
        rfl
      · cases hw
    · cases hg

theorem op_wp {vars : List Nat} {N : Nat} {ops : Array Oper} {o : Oper} {ao : AOper} {S S' : St} {fl : Bool} {call : CallT} {j : Nat} {Hc : Heap} {a : Act} {T : Nat → Prop} {K : Act → World → Prop}
    {Q : Exit → Act → World → Prop} {ro : Option Nat} (hC : CtxOk C fid) (hcall : CallOk C fid call) (ho : ops[j]? = some o) (hao : OperOk C vars N ops o ao) (hst : OpStep call ao S S' fl)
    (hR : RelH C fid G Hc w) (hH : touches ao.op = true → Hc = S.H) (hlow : S.low ≤ Hc.length)
    (hsee : ∀ t, T t → VRel fid G w (lookS vars S t) (a.tmps.getD t undef))
    (hT : ∀ x ∈ ao.op.operands, seenO T x) (hTg : ∀ k want d, o.guard = some (k, want) → (ops[k]?).bind (·.dst) = some d → T d) (hsz : a.tmps.size = N)
    (hK : ∀ x w' G', RelH C fid G' (if fl then S'.H else Hc) w' → (∀ m, m ≤ S'.low → Ext G w G' w' m Hc.length) → (∀ t, o.dst = some t → VRel fid G' w' (lookS vars S' t) x) → K (a.put o.dst x) w') :
    wpOpIn (FW ro) 0 C.P ops Q j K a w := by
  have hwant : ∀ b, wantedA S.tE S.vE ao.guard = some b → Region.wanted o (yielded ops a.tmps) = b := fun b hb =>
    guard_rel (fid := fid) (G := G) (w := w) hao.guard (S := S) (a := a) (fun k want d h1 h2 => hsee d (hTg k want d h1 h2)) hb
  have hput : ∀ (st : St) (v : V) (t : Nat), o.dst = some t → lookS vars (st.put ao.dst v) t = v := fun st v t ht => by
    rcases hao.dst with ⟨h1, -⟩ | ⟨d, -, h1, h2⟩
    · rw [h1] at ht; cases ht
    · rw [h1] at ht; cases ht
      rw [h2, lookS_put, if_pos rfl]
  unfold wpOpIn
  rw [ho]
  rcases hst with ⟨hw, v, H1, low1, h1, rfl, hfl⟩ | ⟨hw, rfl, hfl⟩
  · simp only [hwant _ hw, if_true]
    refine ⟨fun _ _ => trivial, ?_⟩
    let ev' : Opd → V := fun ax => open Classical in if ax ∈ ao.op.operands then Opd.ev S.tE S.vE ax else .undef
    have hcong : ∀ H low, stepC call (Opd.ev S.tE S.vE) H low ao.op = stepC call ev' H low ao.op := fun H low => stepC_congr fun x hx => by simp [ev', hx]
    have hρ : OpdRel C fid vars G w ev' a.eval := fun x ax hx => by
      by_cases hin : ax ∈ ao.op.operands
      · have hT' := hT ax hin
        simp only [ev', hin, if_true]
        cases x with
        | tmp t =>
          simp only [Ctx.opd, Option.some.injEq] at hx
          have hTt : T t := by rw [← hx] at hT'; split at hT' <;> exact hT'
          have := hsee t hTt
          have e : ax.ev S.tE S.vE = lookS vars S t := by rw [← hx]; unfold lookS; split <;> rfl
          rw [e]; exact this
        | const u =>
          simp only [Ctx.opd] at hx
          obtain ⟨cv, hcv, rfl⟩ := Option.map_eq_some_iff.1 hx
          rcases constV_sound (I := G.I) (w := w) u hcv with rfl | hp
          · exact .undef _
          · exact .p _ _ hp
        | func f => exact opd_func hC hx
        | global g => simp [Ctx.opd] at hx
      · simp only [ev', hin, if_false]; exact .undef _
    have hsem : o.semAt (FW ro).round a.eval = execOp a.eval o := Oper.semAt_eq _ _ _ fun c hc => by
      rw [hao.op, hc] at h1
      simp [Ctx.op, Ctx.op0, stepC, step] at h1
    rw [hsem]
    have hpH := put_H { S with H := H1, low := min S.low low1 } ao.dst v
    by_cases ht : touches ao.op = true
    · have e := hH ht
      subst e
      rw [hcong, hao.op] at h1
      refine uponIn_of_runs (R := Post C fid G S.H w v H1 low1) (fun x w2 hp => ?_) (stepC_sound hC hcall hR hρ (Nat.le_refl _) h1)
      obtain ⟨G2, p1, p2, p3⟩ := hp
      refine hK x w2 G2 ?_ (fun m hm => p2 m (by rw [hpH.2.1] at hm; exact Nat.le_trans hm (Nat.min_le_right _ _))) (fun t ht => by rw [hput _ _ _ ht]; exact p3)
      rw [hpH.1]
      cases fl with
      | true => exact p1
      | false =>
        have := movedH_false (stepC_fr hcall.fr (Nat.le_refl _) h1) hfl.symm
        rw [this] at p1
        exact p1
    · have ht' : touches ao.op = false := by simpa using ht
      have hne : ∀ raw f args, ao.op ≠ .call raw f args := fun raw f args e => by rw [e] at ht'; simp [touches] at ht'
      have h1' := h1
      rw [stepC_eq hne] at h1'
      obtain ⟨rfl, rfl, hall⟩ := step_still ht' h1'
      have hflf : fl = false := by rw [hfl]; simp [movedH]
      have h2 := hall Hc Hc.length
      rw [← stepC_eq (call := call) hne, hcong, hao.op] at h2
      refine uponIn_of_runs (R := Post C fid G Hc w v Hc Hc.length) (fun x w2 hp => ?_) (stepC_sound hC hcall hR hρ (Nat.le_refl _) h2)
      obtain ⟨G2, p1, p2, p3⟩ := hp
      refine hK x w2 G2 (by rw [hflf]; exact p1) (fun m hm => p2 m ?_) (fun t ht => by rw [hput _ _ _ ht]; exact p3)
      rw [hpH.2.1] at hm
      have : m ≤ S.low := Nat.le_trans hm (Nat.min_le_left _ _)
      omega
  · have := hwant _ hw
    dsimp only
    rw [if_neg (by rw [this]; simp)]
    refine ⟨fun _ _ => trivial, ?_⟩
    refine hK undef w G ?_ (fun m _ => .refl _ _ _ _) (fun t ht => ?_)
    · rw [hfl]; exact hR
    · rw [hput _ _ _ ht]; exact .tup [] [] .nil

end Go.Abs
