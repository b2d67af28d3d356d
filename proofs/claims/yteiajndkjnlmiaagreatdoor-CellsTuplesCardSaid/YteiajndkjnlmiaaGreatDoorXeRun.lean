/- One operation of a region, calls among them: what the machine does where the executor goes on. -/
import Derived.Test.YteiajndkjnlmiaaGreatDoorXeStep
import Derived.Test.YteiajndkjnlmiaaGreatDoorXeFrame
import Derived.RangeFuncRecord
import Derived.OrdersIn
set_option linter.unusedVariables false
set_option linter.unusedSimpArgs false
namespace Go.Abs
open Go
variable {C : Ctx} {fid : Nat → Nat} {w w' : World} {G G' : Gh} {H H' : Heap}

/-- No fence: every function, any depth; 'ro': the round whose frame it is. -/
def FW (ro : Option Nat) : Fence := { fn := fun _ => True, depth := none, alive := false, round := ro }

theorem FW_fn (ro : Option Nat) (f : FuncId) : (FW ro).fn f := trivial

/-- What an operation, or a call, has come to. -/
def Post (C : Ctx) (fid : Nat → Nat) (G : Gh) (H : Heap) (w : World) (v : V) (H' : Heap) (low' : Nat) (x : Value) (w' : World) : Prop :=
  ∃ G', RelH C fid G' H' w' ∧ (∀ m, m ≤ low' → Ext G w G' w' m H.length) ∧ VRel fid G' w' v x

/-- The machine goes on from what an operation asked for, and comes back with a value. -/
def NextRuns (P : Program) (R : Value → World → Prop) : Result Next → Prop
  | .ok (.value x) w' => R x w'
  | .ok .skip w' => R undef w'
  | .ok (.enter f args) w' => Calls P f args w' (fun e w'' => ∃ x, e = .returned x ∧ R x w'')
  | .ok (.row row args) w' => Rows P row args w' R
  | .ok (.round l f tmps as bd) w' => RoundIn Fence.wide 0 P l f tmps as bd w' (fun e w'' => ∃ x, e = .returned x ∧ R x w'')
  | _ => False

theorem NextRuns.mono {P : Program} {R R' : Value → World → Prop} (h : ∀ x w, R x w → R' x w) : ∀ {r : Result Next}, NextRuns P R r → NextRuns P R' r
  | .ok (.value x) w', k => h _ _ k
  | .ok .skip w', k => h _ _ k
  | .ok (.enter f args) w', k => Calls.mono k fun e w'' => fun ⟨x, e1, e2⟩ => ⟨x, e1, h _ _ e2⟩
  | .ok (.row row args) w', k => Rows.mono k h
  | .ok (.round l f tmps as bd) w', k => RoundIn.mono k fun e w'' => fun ⟨x, e1, e2⟩ => ⟨x, e1, h _ _ e2⟩
  | .ok (.defer _) _, k | .ok .recover _, k | .ok (.spawn _) _, k | .ok (.comm ..) _, k | .ok .numGoroutine _, k | .ok .collect _, k | .ok (.watch _) _, k | .ok (.newcoro ..) _, k | .ok (.coroswitch ..) _, k
  | .ok (.sleep _) _, k | .ok (.timer _) _, k | .ok (.alone ..) _, k | .ok (.callThen ..) _, k | .ok (.stack ..) _, k | .halt .., k => k.elim

theorem uponIn_of_runs {P : Program} {R : Value → World → Prop} {ro : Option Nat} {o : Oper} {a : Act} {next : Act → World → Prop} {Q : Exit → Act → World → Prop} (hn : ∀ x w, R x w → next (a.put o.dst x) w) :
    ∀ {r : Result Next}, NextRuns P R r → o.uponIn (FW ro) 0 P a next Q r
  | .ok (.value x) w', k => hn _ _ k
  | .ok .skip w', k => hn _ _ k
  | .ok (.enter f args) w', k => by
    have k1 : CallsIn Fence.wide 0 P f args w' fun
      | .returned v, w'' => next (a.put o.dst v) w''
      | .panicked chain, w'' => Q (.panic chain) a w''
      | .outgrown, _ => LetsOut Q := callsIn_wide.2 (Calls.mono k fun e w'' => by rintro ⟨x, rfl, e2⟩; exact hn _ _ e2)
    exact ⟨fun h => by simp [FW] at h, k1⟩
  | .ok (.row row args) w', k => by
    refine ⟨fun h => by simp [FW] at h, fun c cs _ => ?_⟩
    obtain ⟨v, w2, h1, h2⟩ := k c cs
    exact ⟨v, w2, hn _ _ h1, (stepsIn_wide.2 h2 : StepsIn (Machine.fenced P Fence.wide) P _ _)⟩
  | .ok (.round l f tmps as bd) w', k => by
    have k1 : RoundIn Fence.wide 0 P l f tmps as bd w' fun
      | .returned v, w'' => next (a.put o.dst v) w''
      | .panicked chain, w'' => Q (.panic chain) a w''
      | .outgrown, _ => LetsOut Q := RoundIn.mono k fun e w'' => by rintro ⟨x, rfl, e2⟩; exact hn _ _ e2
    exact ⟨fun h => by simp [FW] at h, k1⟩
  | .ok (.defer _) _, k | .ok .recover _, k | .ok (.spawn _) _, k | .ok (.comm ..) _, k | .ok .numGoroutine _, k | .ok .collect _, k | .ok (.watch _) _, k | .ok (.newcoro ..) _, k | .ok (.coroswitch ..) _, k
  | .ok (.sleep _) _, k | .ok (.timer _) _, k | .ok (.alone ..) _, k | .ok (.callThen ..) _, k | .ok (.stack ..) _, k | .halt .., k => k.elim

/-- Calls go as the executor says. -/
structure CallOk (C : Ctx) (fid : Nat → Nat) (call : CallT) : Prop where
  fr : CallFr call
  run : ∀ {G : Gh} {H : Heap} {w : World} {f : V} {args : List V} {v : V} {H' : Heap} {low' : Nat} {xf : Value} {xs : List Value}, RelH C fid G H w → VRel fid G w f xf → VRels fid G w args xs →
    call f args H = some (v, H', low') → ∃ d, (Deferred.ofValue xf ⟨xs⟩).run C.P w = .ok d w ∧ NextRuns C.P (Post C fid G H w v H' low') ((invoke d.target d.args).run C.P w) ∧
      (isFn f = true → isPs args = false → ∃ g as, (invoke d.target d.args).run C.P w = .ok (.enter g as) w)

/-- Whatever was there is as it was. -/
theorem RelH.restore (hR : RelH C fid G H w) (hs : w.heap.size ≤ w'.heap.size) (hk : ∀ b, b < w.heap.size → w'.heap[b]? = w.heap[b]?) : RelH C fid G H w' where
  obj l h e := by
    obtain ⟨o, ho, hr⟩ := hR.obj l h e
    exact ⟨o, ho, hr.mono (.refl _) (fun b hb => ⟨hb, hk b (hR.imm b hb).1⟩) (hk _ (hR.blk l h e))⟩
  inj := hR.inj
  blk l h e := Nat.lt_of_lt_of_le (hR.blk l h e) hs
  imm b hb := ⟨Nat.lt_of_lt_of_le (hR.imm b hb).1 hs, (hR.imm b hb).2⟩
  fzI := hR.fzI
  glob b o hg := ⟨(hR.glob b o hg).1, by rw [hk b (hR.imm b (hR.glob b o hg).1).1]; exact (hR.glob b o hg).2⟩

theorem Ext.restore (hs : w.heap.size ≤ w'.heap.size) (hk : ∀ b, b < w.heap.size → w'.heap[b]? = w.heap[b]?) (h1 : w'.os = w.os) (h2 : w'.tape = w.tape) (h3 : w'.output = w.output) (m n : Nat) : Ext G w G w' m n :=
  ⟨hs, h1, h2, h3, fun b hb _ => hk b hb, .refl _, fun _ h hb => .inl ⟨h, hb, .inl rfl⟩, fun _ h => h, fun _ h => .inl h⟩

theorem Ext.keepAll {m n : Nat} (hR : RelH C fid G H w) (h : Ext G w G' w' m n) (hm : H.length ≤ m) : ∀ b, b < w.heap.size → w'.heap[b]? = w.heap[b]? := fun b hb =>
  h.keep b hb fun l x e _ => .inr (Nat.lt_of_lt_of_le (hR.lt e) hm)

theorem execOp_call {o : Oper} {ρ : Operand → Value} {f : Operand} {args : Array Operand} {ts : Array TypeId} (ho : o.op = .call { callee := .value f, args, argTypes := ts }) {P : Program} {w : World} {d : Deferred}
    (hd : (Deferred.ofValue (ρ f) (args.map ρ)).run P w = .ok d w) : (execOp ρ o).run P w = (invoke d.target d.args).run P w := by
  unfold execOp
  simp only [ho, resolve, Sem.run_bind, hd, Result.andThen]

section
variable {vars : List Nat} {ev : Opd → V} {ρ : Operand → Value} {low low' : Nat} {v : V} {o : Oper} {call : CallT}

theorem stepC_sound (hC : CtxOk C fid) (hcall : CallOk C fid call) (hR : RelH C fid G H w) (hρ : OpdRel C fid vars G w ev ρ) (hlow : low ≤ H.length)
    (he : stepC call ev H low (C.op vars o.pos o.op) = some (v, H', low')) : NextRuns C.P (Post C fid G H w v H' low') ((execOp ρ o).run C.P w) := by
  have hplain : (∀ raw f args, C.op vars o.pos o.op ≠ .call raw f args) → NextRuns C.P (Post C fid G H w v H' low') ((execOp ρ o).run C.P w) := fun hne => by
    rw [stepC_eq hne] at he
    obtain ⟨x, w1, G1, hr, h1, h2, h3, -, -⟩ := step_sound hC hR hρ hlow he
    rcases hr with hr | ⟨hr, rfl⟩
    · rw [hr]; exact ⟨G1, h1, h2, h3⟩
    · rw [hr]; exact ⟨G1, h1, h2, h3⟩
  by_cases hne : ∃ raw f args, C.op vars o.pos o.op = .call raw f args
  · obtain ⟨raw, af, aargs, hop⟩ := hne
    have hop0 : C.op0 vars o.pos o.op = some (.call raw af aargs) := by
      unfold Ctx.op at hop
      cases h : C.op0 vars o.pos o.op with
      | none => rw [h] at hop; cases hop
      | some a => rw [h] at hop; simp only [Option.getD_some] at hop; rw [hop]
    obtain ⟨f, args, ts, ho, hf, hargs⟩ : ∃ f args ts, o.op = .call { callee := .value f, args, argTypes := ts } ∧ C.opd vars f = some af ∧ mapO (C.opd vars) args.toList = some aargs := by
      cases ho : o.op with
      | call c =>
        rw [ho] at hop0
        obtain ⟨callee, args, ats⟩ := c
        cases callee with
        | value f =>
          simp only [Ctx.op0] at hop0
          split at hop0
          · rename_i h1 h2
            simp only [Option.some.injEq, AOp.call.injEq] at hop0
            obtain ⟨-, rfl, rfl⟩ := hop0
            exact ⟨f, args, ats, rfl, h1, h2⟩
          · cases hop0
        | builtin b =>
          exfalso
          simp only [Ctx.op0] at hop0
          unfold Ctx.builtin at hop0
          repeat' split at hop0
          all_goals first
            | (cases hop0; done)
            | (simp only [Option.some.injEq, reduceCtorEq] at hop0; done)
            | (obtain ⟨_, _, h⟩ := Option.map_eq_some_iff.1 hop0; cases h; done)
        | invoke r n => simp [Ctx.op0] at hop0
      | binOp a b c d e =>
        exfalso
        rw [ho] at hop0
        simp only [Ctx.op0, Ctx.nilKind] at hop0
        repeat' split at hop0
        all_goals first
          | (cases hop0; done)
          | (obtain ⟨_, _, h⟩ := Option.map_eq_some_iff.1 hop0; cases h; done)
      | makeFunc g a b =>
        exfalso
        rw [ho] at hop0
        cases g with
        | func f =>
          simp only [Ctx.op0] at hop0
          split at hop0 <;> simp at hop0
        | _ => simp [Ctx.op0] at hop0
      | makeMap t r =>
        exfalso
        rw [ho] at hop0
        cases r <;> simp [Ctx.op0] at hop0
      | _ =>
        exfalso
        rw [ho] at hop0
        simp only [Ctx.op0] at hop0
        repeat' split at hop0
        all_goals first
          | (cases hop0; done)
          | (obtain ⟨_, _, h⟩ := Option.map_eq_some_iff.1 hop0; cases h; done)
    have hvf := hρ f af hf
    have hva : VRels fid G w (aargs.map ev) (args.map ρ).toList := by rw [Array.toList_map]; exact mapO_rel hρ hargs
    rw [hop] at he
    have harr : (⟨(args.map ρ).toList⟩ : Array Value) = args.map ρ := rfl
    cases raw with
    | true =>
      simp only [stepC] at he
      split at he
      · rename_i u H2 l h1
        cases he
        obtain ⟨d, hd, hn, -⟩ := hcall.run hR hvf hva h1
        rw [harr] at hd
        rw [execOp_call ho hd]
        refine hn.mono fun x w2 hp => ?_
        obtain ⟨G2, p1, p2, p3⟩ := hp
        exact ⟨G2, p1, fun m hm => p2 m (by omega), p3⟩
      · cases he
    | false =>
      simp only [stepC] at he
      split at he
      · rename_i vs H1 low1 hz
        obtain ⟨G1, fz, hv1⟩ := freezeVs_sound hR hva hz
        have hvf1 := hvf.ext hR (fz.ext 0 (by omega))
        split at he
        · rename_i u H2 l h1
          obtain ⟨d, hd, hn, -⟩ := hcall.run fz.rel hvf1 hv1 h1
          rw [harr] at hd
          rw [execOp_call ho hd]
          refine hn.mono fun x w2 hp => ?_
          obtain ⟨G2, p1, p2, p3⟩ := hp
          split at he
          · rename_i hc
            cases he
            have hE := p2 H1.length hc.2
            have hk := hE.keepAll fz.rel (Nat.le_refl _)
            exact ⟨G, hR.restore hE.size hk, fun m _ => .restore hE.size hk hE.os hE.tape hE.output m _, p3.flat hc.1⟩
          · cases he
            exact ⟨G2, p1, fun m hm => (fz.ext m (by omega)).trans ((p2 m (by omega)).le (Nat.le_refl _) (Nat.le_of_eq fz.len.symm)), p3⟩
        · cases he
      · cases he
  · exact hplain fun raw f args h => hne ⟨raw, f, args, h⟩

end
end Go.Abs
