/- A range over a function; the whole code. -/
import Derived.Test.YteiajndkjnlmiaaGreatDoorXeCode
set_option linter.unusedVariables false
set_option linter.unusedSimpArgs false
namespace Go.Abs
open Go
variable {C : Ctx} {fid : Nat → Nat} {w w' : World} {G G' : Gh} {H H' : Heap}

theorem getLoop_run {P : Program} {b : Nat} {L : Loop} (h : w.heap[b]? = some (.loop L)) : (Instr.getLoop b).run P w = .ok L w := run_getLoop h

theorem run_enterLoop_inner {P : Program} (fn : FuncId) (tmps : Array Value) (ps : Array Tmp) (assign body : Code) {b : Nat} {L : Loop} (h : w.heap[b]? = some (.loop L)) :
    (Instr.enterLoop fn tmps ps assign body (some b)).run P w = .ok (w.heap.size, []) (w.alloc (.loop { state := .ready, pending := none, fn, tmps, params := ps, assign, body, defers := L.defers })) := by
  unfold Instr.enterLoop
  simp only [Sem.run_bind, run_getLoop h, run_newObj_alloc, Result.andThen, Sem.run_pure]

theorem lookS_var {vars : List Nat} {st : St} {t : Nat} (h : t ∈ vars) : lookS vars st t = lookupE st.vE t := by
  unfold lookS; rw [if_pos (List.contains_iff_mem.2 h)]

/-- The record of a loop, and its block. -/
theorem loop_at (hR : RelH C fid G H w) {l : Nat} {h : Home} (hb : G.β l = some h) {st : LoopState} {pend : X} {env : Env} {ps : List Nat} {as bd : ACode} (hl : H[l]? = some (.loop st pend env ps as bd)) :
    h.tag = 0 ∧ h.fz = false ∧ ∃ L vars, w.heap[h.b]? = some (.loop L) ∧ L.state = st ∧ pendRel pend L.pending ∧
      L.params.toList = ps ∧ (∀ t ∈ ps, t ∈ vars ∧ t < L.tmps.size) ∧
      C.code vars L.tmps.size L.assign = some as ∧ C.code vars L.tmps.size L.body = some bd ∧ ∀ t ∈ vars, VRel fid G w (lookupE env t) (L.tmps.getD t undef) := by
  obtain ⟨o, ho, hr⟩ := hR.obj l h hb
  rw [hl] at ho
  cases ho
  exact hr

theorem upd_self {β : Nat → Option Home} {l : Nat} {h : Home} (hb : β l = some h) : upd β l h = β := by
  funext x
  unfold upd
  split
  · rename_i e; rw [e, hb]
  · rfl

/-- An object turned in its block, with its home as it was. -/
theorem turn (hR : RelH C fid G H w) {l : Nat} {h : Home} (hb : G.β l = some h) (hf : h.fz = false) (ob : Obj) (o : AObj)
    (ho : (∀ b, b ≠ h.b → (w.putObj h.b ob).heap[b]? = w.heap[b]?) → (w.putObj h.b ob).heap[h.b]? = some ob → (∀ b, G.I b → (w.putObj h.b ob).heap[b]? = w.heap[b]?) → ORel C fid G (w.putObj h.b ob) h o) :
    RelH C fid G (H.set l o) (w.putObj h.b ob) ∧ Ext G w G (w.putObj h.b ob) l H.length := by
  have hk : ∀ b, b ≠ h.b → (w.putObj h.b ob).heap[b]? = w.heap[b]? := fun b hb' => World.putObj_heap_other hb'
  have hI : ∀ b, G.I b → (w.putObj h.b ob).heap[b]? = w.heap[b]? := fun b hi => hk b fun e => by
    have := (hR.imm b hi).2 l h hb e.symm
    rw [hf] at this; cases this
  have h1 := ho hk (World.putObj_heap_same (hR.blk l h hb)) hI
  have hG : (⟨upd G.β l h, G.I⟩ : Gh) = G := by rw [upd_self hb]
  have a := RelH.write (w' := w.putObj h.b ob) hR hb hf rfl hf (Nat.le_refl _) id rfl (by simp) hk o (by rw [hG]; exact h1)
  have b := Ext.write (w' := w.putObj h.b ob) hR hb hf rfl (Nat.le_refl _) id rfl (by simp) hk rfl rfl rfl
  rw [hG] at a b
  exact ⟨a, b⟩

section
variable {call : CallT} {n : Nat}

theorem code_range (hC : CtxOk C fid) (hcall : CallOk C fid call) {f : Operand} {ps : Array Tmp} {as bd : Code} : CodeOk C fid call n (.rangeFunc f ps as bd) := by
  intro ac vars N hc st r st' he G a w ro base Q hR hro hmk hb hQ
  simp only [Ctx.code] at hc
  split at hc
  · rename_i af aas abd h0 h1 h2
    split at hc
    · rename_i hps
      cases hc
      have hps' : ∀ t ∈ ps.toList, t ∈ vars ∧ t < N := fun t ht => by
        have := (Array.all_eq_true_iff_forall_mem.1 hps) t (Array.mem_toList_iff.1 ht)
        simp only [Bool.and_eq_true, decide_eq_true_eq, List.contains_iff_mem] at this
        exact ⟨this.2, this.1⟩
      simp only [exec] at he
      split at he
      · cases he
      · rename_i hok
        simp only [Bool.not_eq_false, Bool.and_eq_true] at hok
        obtain ⟨hok1, hok2⟩ := hok
        split at he
        · rename_i u H1 low1 hcl
          split at he
          · rename_i ls pend env' ps' as' bd' hl1
            split at he
            · cases he
            · rename_i hbusy
              cases he
              have hvf := opd_rel hC hR f af h0
              refine wpIn_rangeFunc fun fn _ => ?_
              -- the record is laid
              obtain ⟨w0, mark, R, hent, hrel0, hext0, hmk0, hR1, hR2, hR3, hR4, hR5, hR6⟩ : ∃ (w0 : World) (mark : List Deferred) (R : Loop),
                  (Instr.enterLoop fn a.tmps ps as bd (FW ro).round).run C.P w = .ok (w0.heap.size, mark) (w0.alloc (.loop R)) ∧ RelH C fid G st.H w0 ∧ (∀ m n, Ext G w G w0 m n) ∧ MarksOk G w0 base (mark ++ a.defers) ∧
                  R.state = .ready ∧ R.pending = none ∧ R.tmps = a.tmps ∧ R.params = ps ∧ R.assign = as ∧ R.body = bd := by
                cases hro' : ro with
                | none =>
                  have hk : ∀ b, b < w.heap.size → (w.alloc (.deferred (some []))).heap[b]? = w.heap[b]? := fun b hb' => alloc_old hb'
                  have hsz : w.heap.size ≤ (w.alloc (.deferred (some []))).heap.size := by simp
                  refine ⟨w.alloc (.deferred (some [])), [markOf w.heap.size], { state := .ready, pending := none, fn, tmps := a.tmps, params := ps, assign := as, body := bd, defers := w.heap.size }, ?_, hR.rel.restore hsz hk, fun m n => .restore hsz hk rfl rfl rfl m n, ?_, rfl, rfl, rfl, rfl, rfl, rfl⟩
                  · have := run_enterLoop_outer (P := C.P) (w := w) fn a.tmps ps as bd
                    rw [show (FW none).round = none from rfl, this]
                    simp [markOf]
                  · obtain ⟨rs, e, nd, k⟩ := hmk.ext (.restore (G := G) hsz hk rfl rfl rfl 0 0)
                    refine ⟨w.heap.size :: rs, by rw [e]; rfl, List.nodup_cons.2 ⟨fun hin => ?_, nd⟩, fun r hr => ?_⟩
                    · obtain ⟨rs', e', nd', k'⟩ := hmk
                      have hrs : rs = rs' := by
                        have := e.symm.trans e'
                        exact (List.map_inj_right fun x y hxy => by simpa [markOf] using hxy).1 this
                      have := (k' _ (hrs ▸ hin)).lt
                      omega
                    · rcases List.mem_cons.1 hr with rfl | hr
                      · exact ⟨hb, by simp, alloc_new _ _, fun l h e q => by have := hR.rel.blk l h e; omega, fun hi => by have := (hR.rel.imm _ hi).1; omega⟩
                      · exact k r hr
                | some b =>
                  subst hro'
                  cases hsr : st.ro with
                  | none => rw [hsr] at hro; exact hro.elim
                  | some l0 =>
                    rw [hsr] at hro hok1
                    obtain ⟨h, e, t, q⟩ := hro
                    simp only [roOk] at hok1
                    split at hok1
                    · rename_i hl0
                      obtain ⟨-, -, L, vs, hL, -⟩ := loop_at hR.rel e hl0
                      rw [q] at hL
                      exact ⟨w, [], { state := .ready, pending := none, fn, tmps := a.tmps, params := ps, assign := as, body := bd, defers := L.defers }, run_enterLoop_inner fn a.tmps ps as bd hL, hR.rel, fun m n => .refl _ _ _ _, hmk, rfl, rfl, rfl, rfl, rfl, rfl⟩
                    · cases hok1
              -- its object
              let hm : Home := ⟨w0.heap.size, 0, 0, false⟩
              let G1 : Gh := ⟨upd G.β st.H.length hm, G.I⟩
              have hG1 : HomesLe G.β G1.β := homes_upd_new (hrel0.none (Nat.le_refl _)) _
              have hI1 : ∀ b, G.I b → G1.I b ∧ (w0.alloc (.loop R)).heap[b]? = w0.heap[b]? := fun b hi => ⟨hi, alloc_old (hrel0.imm b hi).1⟩
              have hv0 : ∀ t, VRel fid G w0 (lookS vars st t) (a.tmps.getD t undef) := fun t => (hR.env t).ext hR.rel (hext0 0 0)
              have hrel1 : RelH C fid G1 (st.H ++ [.loop .ready .normal st.vE ps.toList aas abd]) (w0.alloc (.loop R)) := by
                refine hrel0.push _ _ 0 0 ⟨rfl, rfl, R, vars, alloc_new _ _, hR1, by rw [hR2]; trivial, by rw [hR4], fun t ht => ⟨(hps' t ht).1, by rw [hR3, hR.size]; exact (hps' t ht).2⟩, ?_, ?_, fun t ht => ?_⟩
                · rw [hR3, hR5, hR.size]; exact h1
                · rw [hR3, hR6, hR.size]; exact h2
                · rw [hR3, ← lookS_var ht]; exact (hv0 t).mono hG1 hI1
              have hext1 : ∀ m, Ext G w0 G1 (w0.alloc (.loop R)) m st.H.length := fun m => .push hrel0 _ 0 0 m
              have hvf1 : VRel fid G1 (w0.alloc (.loop R)) (af.ev st.tE st.vE) (a.eval f) := ((hvf.ext hR.rel (hext0 0 0)).mono hG1 hI1)
              have hva1 : VRels fid G1 (w0.alloc (.loop R)) [.yield st.H.length] [.func (.yield w0.heap.size) #[] #[]] :=
                .cons _ _ _ _ (.yield st.H.length hm (upd_same _ _ _) rfl) .nil
              obtain ⟨d, hd, hn, hent2⟩ := hcall.run hrel1 hvf1 hva1 hcl
              obtain ⟨g, gs, hinv⟩ := hent2 hok2 rfl
              rw [hinv] at hn
              refine ⟨w0.heap.size, mark, _, d, w0.alloc (.loop R), g, gs, _, hent, ?_, fun _ _ => trivial, hinv, fun h => by simp [FW] at h, ?_⟩
              · have e : Array.map a.eval #[Operand.const (Value.func (Fn.yield w0.heap.size) #[] #[])] = ⟨[Value.func (Fn.yield w0.heap.size) #[] #[]]⟩ := by simp [Act.eval]
                simp only [resolve, rangeCall, e]; exact hd
              · have hn' : Calls C.P g gs (w0.alloc (.loop R)) (rangePost (FW ro) 0 C.P w0.heap.size Q { a with defers := mark ++ a.defers }) := by
                  refine Calls.mono hn fun e w3 hp => ?_
                  obtain ⟨y, rfl, G2, q1, q2, q3⟩ := hp
                  have hE2 := q2 0 (Nat.zero_le _)
                  obtain ⟨h2, e2, -, z2, m2, -⟩ := hE2.homes st.H.length hm (upd_same _ _ _)
                  have t2 := z2 rfl
                  have b2 : h2.b = w0.heap.size := (m2 t2).1
                  obtain ⟨-, fz2, L, vs, hL, hL1, hL2, -⟩ := loop_at q1 e2 hl1
                  rw [b2] at hL
                  have hT := turn q1 e2 fz2 (.loop { L with state := .exhausted }) .gone fun _ _ _ => ⟨t2, fz2⟩
                  rw [b2] at hT
                  have hlow1 := hcall.fr _ _ _ _ _ _ hcl
                  have hlen : st.H.length ≤ H1.length := by have := hlow1.len; simp at this; omega
                  have hExt : ∀ m, m ≤ min st.low low1 → Ext G w G2 (w3.putObj w0.heap.size (.loop { L with state := .exhausted })) m st.H.length := fun m hm' =>
                    ((hext0 m st.H.length).trans (hext1 m)).trans (((q2 m (by omega)).le (Nat.le_refl _) (by simp)).trans (hT.2.le (by have := hR.low; omega) hlen))
                  have hE := hExt 0 (Nat.zero_le _)
                  have hrst : RelSt C fid vars N G2 { st with H := H1.set st.H.length .gone, low := min st.low low1 } { a with defers := mark ++ a.defers } (w3.putObj w0.heap.size (.loop { L with state := .exhausted })) :=
                    ⟨hT.1, fun t => (hR.env t).ext hR.rel hE, hR.size, by simp only [List.length_set]; have := hR.low; omega⟩
                  have hmks : MarksOk G2 (w3.putObj w0.heap.size (.loop { L with state := .exhausted })) base (mark ++ a.defers) := ((hmk0.ext (hext1 0)).ext hE2).ext (hT.2.le (Nat.zero_le _) (Nat.le_refl _))
                  have hq := hQ G2 _ _ ⟨hrst, hExt, hmks⟩
                  refine ⟨L.pending, _, run_endLoop hL (by rw [hL1]; exact hbusy), ?_⟩
                  cases hp : L.pending with
                  | none =>
                    rw [hp] at hL2 hq
                    cases r with
                    | normal => exact hq
                    | exit i => exact hL2.elim
                    | ret => exact hL2.elim
                  | some c =>
                    rw [hp] at hL2 hq
                    cases r with
                    | normal => exact hL2.elim
                    | exit i =>
                      cases c <;> first | exact hL2.elim | skip
                      rename_i j
                      have : j = i := hL2
                      subst this
                      exact wpIn_exit hq
                    | ret =>
                      cases c <;> first | exact hL2.elim | skip
                      exact wpIn_ret hq
                exact callsIn_wide.2 hn'
          · cases he
        · cases he
    · cases hc
  · cases hc

theorem code_ok (hmix : C.P.follows .mixedOrders = true) (hC : CtxOk C fid) (hcall : CallOk C fid call) : ∀ (c : Code), CodeOk C fid call n c
  | .skip => by
    intro ac vars N hc st r st' he G a w ro base Q hR hro hmk hb hQ
    simp only [Ctx.code, Option.some.injEq] at hc
    subst hc
    simp only [exec, Option.some.injEq, Prod.mk.injEq] at he
    obtain ⟨rfl, rfl⟩ := he
    exact wpIn_skip (hQ G a w (.refl hR hmk))
  | .region id ops draw => code_region hmix hC hcall id ops draw
  | .seq x y => code_seq hcall.fr (code_ok hmix hC hcall x) (code_ok hmix hC hcall y)
  | .cond o x y => code_cond hC (code_ok hmix hC hcall x) (code_ok hmix hC hcall y)
  | .block id x => code_block (code_ok hmix hC hcall x)
  | .loop x => code_loop hcall.fr (code_ok hmix hC hcall x)
  | .rangeFunc f ps x y => code_range hC hcall
  | .exit id => by
    intro ac vars N hc st r st' he G a w ro base Q hR hro hmk hb hQ
    simp only [Ctx.code, Option.some.injEq] at hc
    subst hc
    simp only [exec, Option.some.injEq, Prod.mk.injEq] at he
    obtain ⟨rfl, rfl⟩ := he
    exact wpIn_exit (hQ G a w (.refl hR hmk))
  | .ret => by
    intro ac vars N hc st r st' he G a w ro base Q hR hro hmk hb hQ
    simp only [Ctx.code, Option.some.injEq] at hc
    subst hc
    simp only [exec, Option.some.injEq, Prod.mk.injEq] at he
    obtain ⟨rfl, rfl⟩ := he
    exact wpIn_ret (hQ G a w (.refl hR hmk))
  | .scope _ | .label _ | .goto _ | .refuse _ => by
    intro ac vars N hc st r st' he
    simp only [Ctx.code, Option.some.injEq] at hc
    subst hc
    simp [exec] at he

end
end Go.Abs
