/- A range over a function; the whole code. -/
import Derived.Test.YteiajndkjnlmiaaGreatDoorP02
import Derived.Test.YteiajndkjnlmiaaGreatDoorP00
set_option linter.unusedVariables false
set_option linter.unusedSimpArgs false
namespace Go.Abs
open Go
variable {C : Ctx} {fid : Nat → Nat} {w w' : World} {G G' : Gh} {H H' : Heap}

theorem getLoop_run {P : Program} {b : Nat} {L : Loop} (h : w.heap[b]? = some (.loop L)) : (Instr.getLoop b).run P w = .ok L w := run_getLoop h

theorem run_enterLoop_inner {P : Program} (fn : FuncId) (tmps : Array Value) (ps : Array Tmp) (assign body : Code) {b : Nat} {L : Loop} (h : w.heap[b]? = some (.loop L)) :
    (Instr.enterLoop fn tmps ps assign body (some b)).run P w = .ok (w.heap.size, []) (w.alloc (.loop { state := .ready, pending := none, fn, tmps, params := ps, assign, body, defers := L.defers })) := by
  unfold Instr.enterLoop
  simp only [Sem.run_bind, run_getLoop h, run_newObj_alloc, Result.andThen, Sem.run_pure]

theorem lookS_var {vars : List Nat} {st : St} {t : Nat} (h : t ∈ vars) : lookS vars st t = lookupE st.vE t := by
  unfold lookS; rw [if_pos (List.contains_iff_mem.2 h)]

/-- The record of a loop, and its block. -/
theorem loop_at (hR : RelH C fid G H w) {l : Nat} {h : Home} (hb : G.β l = some h) {st : LoopState} {pend : X} {env : Env} {ps : List Nat} {as bd : ACode} (hl : H[l]? = some (.loop st pend env ps as bd)) :
    h.tag = 0 ∧ h.fz = false ∧ ∃ L vars, w.heap[h.b]? = some (.loop L) ∧ L.state = st ∧ pendRel pend L.pending ∧
      L.params.toList = ps ∧ (∀ t ∈ ps, t ∈ vars ∧ t < L.tmps.size) ∧
      C.code vars L.tmps.size L.assign = some as ∧ C.code vars L.tmps.size L.body = some bd ∧ ∀ t ∈ vars, VRel fid G w (lookupE env t) (L.tmps.getD t undef) := by
  obtain ⟨o, ho, hr⟩ := hR.obj l h hb
  rw [hl] at ho
  cases ho
  exact hr

theorem upd_self {β : Nat → Option Home} {l : Nat} {h : Home} (hb : β l = some h) : upd β l h = β := by
  funext x
  unfold upd
  split
  · rename_i e; rw [e, hb]
  · rfl

/-- An object turned in its block, with its home as it was. -/
theorem turn (hR : RelH C fid G H w) {l : Nat} {h : Home} (hb : G.β l = some h) (hf : h.fz = false) (ob : Obj) (o : AObj)
    (ho : (∀ b, b ≠ h.b → (w.putObj h.b ob).heap[b]? = w.heap[b]?) → (w.putObj h.b ob).heap[h.b]? = some ob → (∀ b, G.I b → (w.putObj h.b ob).heap[b]? = w.heap[b]?) → ORel C fid G (w.putObj h.b ob) h o) :
    RelH C fid G (H.set l o) (w.putObj h.b ob) ∧ Ext G w G (w.putObj h.b ob) l H.length := by
  have hk : ∀ b, b ≠ h.b → (w.putObj h.b ob).heap[b]? = w.heap[b]? := fun b hb' => World.putObj_heap_other hb'
  have hI : ∀ b, G.I b → (w.putObj h.b ob).heap[b]? = w.heap[b]? := fun b hi => hk b fun e => by
    have := (hR.imm b hi).2 l h hb e.symm
    rw [hf] at this; cases this
  have h1 := ho hk (World.putObj_heap_same (hR.blk l h hb)) hI
  have hG : (⟨upd G.β l h, G.I⟩ : Gh) = G := by rw [upd_self hb]
  have a := RelH.write (w' := w.putObj h.b ob) hR hb hf rfl hf (Nat.le_refl _) id rfl (by simp) hk o (by rw [hG]; exact h1)
  have b := Ext.write (w' := w.putObj h.b ob) hR hb hf rfl (Nat.le_refl _) id rfl (by simp) hk rfl rfl rfl
  rw [hG] at a b
  exact ⟨a, b⟩

section
variable {call : CallT} {n : Nat}

theorem code_range (hC : CtxOk C fid) (hcall : CallOk C fid call) {f : Operand} {ps : Array Tmp} {as bd : Code} : CodeOk C fid call n (.rangeFunc f ps as bd) := by
  intro ac vars N hc st r st' he G a w ro base Q hR hro hmk hb hQ
  simp only [Ctx.code] at hc
  split at hc
  · rename_i af aas abd h0 h1 h2
    split at hc
    · rename_i hps
      cases hc
      have hps' : ∀ t ∈ ps.toList, t ∈ vars ∧ t < N := fun t ht => by
        have := (Array.all_eq_true_iff_forall_mem.1 hps) t (Array.mem_toList_iff.1 ht)
        simp only [Bool.and_eq_true, decide_eq_true_eq, List.contains_iff_mem] at this
        exact ⟨this.2, this.1⟩
      simp only [exec] at he
      split at he
      · cases he
      · rename_i hok
        simp only [Bool.not_eq_false, Bool.and_eq_true] at hok
        obtain ⟨hok1, hok2⟩ := hok
        split at he
        · rename_i u H1 low1 hcl
          split at he
          · rename_i ls pend env' ps' as' bd' hl1
            split at he
            · cases he
            · rename_i hbusy
              cases he
              have hvf := opd_rel hC hR f af h0
              refine wpIn_rangeFunc fun fn _ => ?_
              -- the record is laid
              obtain ⟨w0, mark, R, hent, hrel0, hext0, hmk0, hR1, hR2, hR3, hR4, hR5, hR6⟩ : ∃ (w0 : World) (mark : List Deferred) (R : Loop),
                  (Instr.enterLoop fn a.tmps ps as bd (FW ro).round).run C.P w = .ok (w0.heap.size, mark) (w0.alloc (.loop R)) ∧ RelH C fid G st.H w0 ∧ (∀ m n, Ext G w G w0 m n) ∧ MarksOk G w0 base (mark ++ a.defers) ∧
                  R.state = .ready ∧ R.pending = none ∧ R.tmps = a.tmps ∧ R.params = ps ∧ R.assign = as ∧ R.body = bd := by
                cases hro' : ro with
                | none =>
                  have hk : ∀ b, b < w.heap.size → (w.alloc (.deferred (some []))).heap[b]? = w.heap[b]? := fun b hb' => alloc_old hb'
                  have hsz : w.heap.size ≤ (w.alloc (.deferred (some []))).heap.size := by simp
                  refine ⟨w.alloc (.deferred (some [])), [markOf w.heap.size], { state := .ready, pending := none, fn, tmps := a.tmps, params := ps, assign := as, body := bd, defers := w.heap.size }, ?_, hR.rel.restore hsz hk, fun m n => .restore hsz hk rfl rfl rfl m n, ?_, rfl, rfl, rfl, rfl, rfl, rfl⟩
                  · have := run_enterLoop_outer (P := C.P) (w := w) fn a.tmps ps as bd
                    rw [show (FW none).round = none from rfl, this]
                    simp [markOf]
                  · obtain ⟨rs, e, nd, k⟩ := hmk.ext (.restore (G := G) hsz hk rfl rfl rfl 0 0)
                    refine ⟨w.heap.size :: rs, by rw [e]; rfl, List.nodup_cons.2 ⟨fun hin => ?_, nd⟩, fun r hr => ?_⟩
                    · obtain ⟨rs', e', nd', k'⟩ := hmk
                      have hrs : rs = rs' := by
                        have := e.symm.trans e'
                        exact (List.map_inj_right fun x y hxy => by simpa [markOf] using hxy).1 this
                      have := (k' _ (hrs ▸ hin)).lt
                      omega
                    · rcases List.mem_cons.1 hr with rfl | hr
                      · exact ⟨hb, by simp, alloc_new _ _, fun l h e q => by have := hR.rel.blk l h e; omega, fun hi => by have := (hR.rel.imm _ hi).1; omega⟩
                      · exact k r hr
                | some b =>
                  subst hro'
                  cases hsr : st.ro with
                  | none => rw [hsr] at hro; exact hro.elim
                  | some l0 =>
                    rw [hsr] at hro hok1
                    obtain ⟨h, e, t, q⟩ := hro
                    simp only [roOk] at hok1
                    split at hok1
                    · rename_i hl0
                      obtain ⟨-, -, L, vs, hL, -⟩ := loop_at hR.rel e hl0
                      rw [q] at hL
                      exact ⟨w, [], { state := .ready, pending := none, fn, tmps := a.tmps, params := ps, assign := as, body := bd, defers := L.defers }, run_enterLoop_inner fn a.tmps ps as bd hL, hR.rel, fun m n => .refl _ _ _ _, hmk, rfl, rfl, rfl, rfl, rfl, rfl⟩
                    · cases hok1
              -- its object
              let hm : Home := ⟨w0.heap.size, 0, 0, false⟩
              let G1 : Gh := ⟨upd G.β st.H.length hm, G.I⟩
              have hG1 : HomesLe G.β G1.β := homes_upd_new (hrel0.none (Nat.le_refl _)) _
              have hI1 : ∀ b, G.I b → G1.I b ∧ (w0.alloc (.loop R)).heap[b]? = w0.heap[b]? := fun b hi => ⟨hi, alloc_old (hrel0.imm b hi).1⟩
              have hv0 : ∀ t, VRel fid G w0 (lookS vars st t) (a.tmps.getD t undef) := fun t => (hR.env t).ext hR.rel (hext0 0 0)
              have hrel1 : RelH C fid G1 (st.H ++ [.loop .ready .normal st.vE ps.toList aas abd]) (w0.alloc (.loop R)) := by
                refine hrel0.push _ _ 0 0 ⟨rfl, rfl, R, vars, alloc_new _ _, hR1, by rw [hR2]; trivial, by rw [hR4], fun t ht => ⟨(hps' t ht).1, by rw [hR3, hR.size]; exact (hps' t ht).2⟩, ?_, ?_, fun t ht => ?_⟩
                · rw [hR3, hR5, hR.size]; exact h1
                · rw [hR3, hR6, hR.size]; exact h2
                · rw [hR3, ← lookS_var ht]; exact (hv0 t).mono hG1 hI1
              have hext1 : ∀ m, Ext G w0 G1 (w0.alloc (.loop R)) m st.H.length := fun m => .push hrel0 _ 0 0 m
              have hvf1 : VRel fid G1 (w0.alloc (.loop R)) (af.ev st.tE st.vE) (a.eval f) := ((hvf.ext hR.rel (hext0 0 0)).mono hG1 hI1)
              have hva1 : VRels fid G1 (w0.alloc (.loop R)) [.yield st.H.length] [.func (.yield w0.heap.size) #[] #[]] :=
                .cons _ _ _ _ (.yield st.H.length hm (upd_same _ _ _) rfl) .nil
              obtain ⟨d, hd, hn, hent2⟩ := hcall.run hrel1 hvf1 hva1 hcl
              obtain ⟨g, gs, hinv⟩ := hent2 hok2 rfl
              rw [hinv] at hn
              refine ⟨w0.heap.size, mark, _, d, w0.alloc (.loop R), g, gs, _, hent, ?_, fun _ _ => trivial, hinv, fun h => by simp [FW] at h, ?_⟩
              · have e : Array.map a.eval #[Operand.const (Value.func (Fn.yield w0.heap.size) #[] #[])] = ⟨[Value.func (Fn.yield w0.heap.size) #[] #[]]⟩ := by simp [Act.eval]
                simp only [resolve, rangeCall, e]; exact hd
              · have hn' : Calls C.P g gs (w0.alloc (.loop R)) (rangePost (FW ro) 0 C.P w0.heap.size Q { a with defers := mark ++ a.defers }) := by
                  refine Calls.mono hn fun e w3 hp => ?_
                  obtain ⟨y, rfl, G2, q1, q2, q3⟩ := hp
                  have hE2 := q2 0 (Nat.zero_le _)
                  obtain ⟨h2, e2, -, z2, m2, -⟩ := hE2.homes st.H.length hm (upd_same _ _ _)
                  have t2 := z2 rfl
                  have b2 : h2.b = w0.heap.size := (m2 t2).1
                  obtain ⟨-, fz2, L, vs, hL, hL1, hL2, -⟩ := loop_at q1 e2 hl1
                  rw [b2] at hL
                  have hT := turn q1 e2 fz2 (.loop { L with state := .exhausted }) .gone fun _ _ _ => ⟨t2, fz2⟩
                  rw [b2] at hT
                  have hlow1 := hcall.fr _ _ _ _ _ _ hcl
                  have hlen : st.H.length ≤ H1.length := by have := hlow1.len; simp at this; omega
                  have hExt : ∀ m, m ≤ min st.low low1 → Ext G w G2 (w3.putObj w0.heap.size (.loop { L with state := .exhausted })) m st.H.length := fun m hm' =>
                    ((hext0 m st.H.length).trans (hext1 m)).trans (((q2 m (by omega)).le (Nat.le_refl _) (by simp)).trans (hT.2.le (by have := hR.low; omega) hlen))
                  have hE := hExt 0 (Nat.zero_le _)
                  have hrst : RelSt C fid vars N G2 { st with H := H1.set st.H.length .gone, low := min st.low low1 } { a with defers := mark ++ a.defers } (w3.putObj w0.heap.size (.loop { L with state := .exhausted })) :=
                    ⟨hT.1, fun t => (hR.env t).ext hR.rel hE, hR.size, by simp only [List.length_set]; have := hR.low; omega⟩
                  have hmks : MarksOk G2 (w3.putObj w0.heap.size (.loop { L with state := .exhausted })) base (mark ++ a.defers) := ((hmk0.ext (hext1 0)).ext hE2).ext (hT.2.le (Nat.zero_le _) (Nat.le_refl _))
                  have hq := hQ G2 _ _ ⟨hrst, hExt, hmks⟩
                  refine ⟨L.pending, _, run_endLoop hL (by rw [hL1]; exact hbusy), ?_⟩
                  cases hp : L.pending with
                  | none =>
                    rw [hp] at hL2 hq
                    cases r with
                    | normal => exact hq
                    | exit i => exact hL2.elim
                    | ret => exact hL2.elim
                  | some c =>
                    rw [hp] at hL2 hq
                    cases r with
                    | normal => exact hL2.elim
                    | exit i =>
                      cases c <;> first | exact hL2.elim | skip
                      rename_i j
                      have : j = i := hL2
                      subst this
                      exact wpIn_exit hq
                    | ret =>
                      cases c <;> first | exact hL2.elim | skip
                      exact wpIn_ret hq
                exact callsIn_wide.2 hn'
          · cases he
        · cases he
    · cases hc
  · cases hc

theorem code_ok (hmix : C.P.follows .mixedOrders = true) (hC : CtxOk C fid) (hcall : CallOk C fid call) : ∀ (c : Code), CodeOk C fid call n c
  | .skip => by
    intro ac vars N hc st r st' he G a w ro base Q hR hro hmk hb hQ
    simp only [Ctx.code, Option.some.injEq] at hc
    subst hc
    simp only [exec, Option.some.injEq, Prod.mk.injEq] at he
    obtain ⟨rfl, rfl⟩ := he
    exact wpIn_skip (hQ G a w (.refl hR hmk))
  | .region id ops draw => code_region hmix hC hcall id ops draw
  | .seq x y => code_seq hcall.fr (code_ok hmix hC hcall x) (code_ok hmix hC hcall y)
  | .cond o x y => code_cond hC (code_ok hmix hC hcall x) (code_ok hmix hC hcall y)
  | .block id x => code_block (code_ok hmix hC hcall x)
  | .loop x => code_loop hcall.fr (code_ok hmix hC hcall x)
  | .rangeFunc f ps x y => code_range hC hcall
  | .exit id => by
    intro ac vars N hc st r st' he G a w ro base Q hR hro hmk hb hQ
    simp only [Ctx.code, Option.some.injEq] at hc
    subst hc
    simp only [exec, Option.some.injEq, Prod.mk.injEq] at he
    obtain ⟨rfl, rfl⟩ := he
    exact wpIn_exit (hQ G a w (.refl hR hmk))
  | .ret => by
    intro ac vars N hc st r st' he G a w ro base Q hR hro hmk hb hQ
    simp only [Ctx.code, Option.some.injEq] at hc
    subst hc
    simp only [exec, Option.some.injEq, Prod.mk.injEq] at he
    obtain ⟨rfl, rfl⟩ := he
    exact wpIn_ret (hQ G a w (.refl hR hmk))
  | .scope _ | .label _ | .goto _ | .refuse _ => by
    intro ac vars N hc st r st' he
    simp only [Ctx.code, Option.some.injEq] at hc
    subst hc
    simp [exec] at he

end
end Go.Abs
/- Calls: a function's body, a round of a loop; every call that the executor makes goes as it says. -/
namespace Go.Abs
open Go
variable {C : Ctx} {fid : Nat → Nat} {w w' : World} {G G' : Gh} {H H' : Heap} {call : CallT} {n : Nat}

/-- A function of the library, met by its contract. -/
def ExtOk (C : Ctx) (fid : Nat → Nat) (i : Nat) (spec : List V → Option V) : Prop :=
  ∀ {G : Gh} {H : Heap} {w : World} {args : List V} {v : V} {xs : List Value}, RelH C fid G H w → PRels w G.I args xs → spec args = some v → NextRuns C.P (Post C fid G H w v H H.length) ((callFunc (fid i) ⟨xs⟩).run C.P w)

/-- The table of the functions is the program's. -/
structure TabOk (C : Ctx) (fid : Nat → Nat) (tab : Nat → Option Fun) : Prop where
  code : ∀ i f, tab i = some (.code f) → ∃ fn, C.P.funcs[fid i]? = some fn ∧ C.func fn f.fresh = some f
  ext : ∀ i spec, tab i = some (.ext spec) → ExtOk C fid i spec

/-! ### a round -/

theorem fold_env {vars : List Nat} : ∀ (ps : List Nat) (vs : List V) (xs : List Value) (env : Env) (tmps : Array Value), VRels fid G w vs xs → (∀ t ∈ ps, t < tmps.size) →
    (∀ t, t ∈ vars → VRel fid G w (lookupE env t) (tmps.getD t undef)) →
    ((ps.zip xs).foldl (fun (tm : Array Value) (p : Nat × Value) => tm.setIfInBounds p.1 p.2) tmps).size = tmps.size ∧
      ∀ t, t ∈ vars → VRel fid G w (lookupE ((ps.zip vs).foldl (fun e (p : Nat × V) => setE e p.1 p.2) env) t) (((ps.zip xs).foldl (fun (tm : Array Value) (p : Nat × Value) => tm.setIfInBounds p.1 p.2) tmps).getD t undef)
  | [], vs, xs, env, tmps, _, _, h => ⟨rfl, by simpa using h⟩
  | p :: ps, _, _, env, tmps, .nil, _, h => ⟨rfl, by simpa using h⟩
  | p :: ps, _, _, env, tmps, .cons v x vs xs hv hs, hlt, h => by
    have h1 := fold_env ps vs xs (setE env p v) (tmps.setIfInBounds p x) hs (fun t ht => by rw [Array.size_setIfInBounds]; exact hlt t (by simp [ht])) fun t ht => by
      rw [lookupE_setE]
      have := getD_put { tmps := tmps, defers := [] } p x t (hlt p (by simp))
      simp only [Act.put] at this
      rw [this]
      by_cases e : t = p
      · rw [if_pos e, if_pos e]; exact hv
      · rw [if_neg e, if_neg e]; exact h t ht
    simp only [List.zip_cons_cons, List.foldl_cons]
    rw [Array.size_setIfInBounds] at h1
    exact h1

theorem MarksOk.nil (G : Gh) (w : World) (base : Nat) : MarksOk G w base [] := ⟨[], rfl, List.nodup_nil, fun r hr => by cases hr⟩

theorem yield_sound (hmix : C.P.follows .mixedOrders = true) (hC : CtxOk C fid) (hcall : CallOk C fid call) {l : Nat} {args : List V} {v : V} {low' : Nat} {xs : List Value} {h : Home}
    (he : yieldBody (exec call n) l args H = some (v, H', low')) (hR : RelH C fid G H w) (hb : G.β l = some h) (hv : VRels fid G w args xs) :
    NextRuns C.P (Post C fid G H w v H' low') ((Instr.yield h.b ⟨xs⟩).run C.P w) := by
  unfold yieldBody at he
  split at he
  · rename_i p0 env params aas abd hl0
    obtain ⟨ht, hfz, L, vars, hL, hL1, hL2, hL3, hL4, hL5, hL6, hL7⟩ := loop_at hR hb hl0
    split at he
    · rename_i hlen
      have hys := run_yield (P := C.P) (args := ⟨xs⟩) hL (by rw [← Array.length_toList, ← Array.length_toList, hL3, VRels.length hv, hlen])
      rw [hys]
      have hfold : (r : Array Value) → ((L.params.zip (⟨xs⟩ : Array Value)).foldl (fun tmps (t, a) => tmps.setIfInBounds t a) r) = (params.zip xs).foldl (fun (tm : Array Value) (p : Nat × Value) => tm.setIfInBounds p.1 p.2) r := fun r => by
        rw [← Array.foldl_toList, Array.toList_zip, hL3]
      rw [hfold]
      obtain ⟨hsz, henv⟩ := fold_env (vars := vars) params args xs env L.tmps hv (fun t ht => (hL4 t ht).2) hL7
      -- the assignments
      split at he
      · rename_i st1 he1
        have f1 := exec_fr hcall.fr n _ _ _ _ (Nat.le_refl _) he1
        split at he
        · rename_i p1 env1 ps1 as1 bd1 hl1
          split at he
          · rename_i x st3 he3
            split at he
            · rename_i ls3 p3 env3 ps3 as3 bd3 hl3
              cases he
              refine roundIn_of_wpIn trivial ?_
              have hR0 : RelSt C fid vars L.tmps.size G { tE := [], vE := (params.zip args).foldl (fun e (t, v) => setE e t v) env, H, low := H.length, ro := some l }
                  { tmps := (params.zip xs).foldl (fun (tm : Array Value) (p : Nat × Value) => tm.setIfInBounds p.1 p.2) L.tmps, defers := [] } w :=
                ⟨hR, fun t => by
                  unfold lookS
                  split
                  · rename_i hin; exact henv t (List.contains_iff_mem.1 hin)
                  · exact .undef _, hsz, Nat.le_refl _⟩
              refine code_ok (n := n) hmix hC hcall L.assign _ vars _ hL5 _ _ _ he1 G _ w (some h.b) 0 _ hR0 ⟨h, hb, ht, rfl⟩ (.nil _ _ _) (Nat.zero_le _) ?_
              intro G1 a1 w1 F1
              -- the round begins
              have hE1 := F1.ext 0 (Nat.zero_le _)
              obtain ⟨h1, e1, -, z1, m1, -⟩ := hE1.homes l h hb
              have hb1 : h1.b = h.b := (m1 ((z1 ht).trans ht.symm)).1
              obtain ⟨t1, fz1, L1, vars1, q1, q2, q3, q4, q5, q6, q7, q8⟩ := loop_at F1.rel.rel e1 hl1
              have hT1 := turn F1.rel.rel e1 fz1 (.loop { L1 with state := .busy }) (.loop .busy p1 env1 ps1 as1 bd1) fun k1 k2 k3 =>
                ⟨t1, fz1, _, vars1, k2, rfl, q3, q4, q5, q6, q7, fun t ht => (q8 t ht).mono (.refl _) fun b hb => ⟨hb, k3 b hb⟩⟩
              have hbeg := run_beginRound (P := C.P) q1 q2
              rw [hb1] at hT1 hbeg
              refine ⟨_, hbeg, ?_⟩
              -- its body
              have hlow1 : min st1.low l ≤ st1.H.length := by have := F1.rel.low; omega
              have hR1 : RelSt C fid vars L.tmps.size G1 { st1 with H := st1.H.set l (.loop .busy p1 env1 ps1 as1 bd1), low := min st1.low l } a1 (w1.putObj h.b (.loop { L1 with state := .busy })) :=
                ⟨hT1.1, fun t => (F1.rel.env t).ext F1.rel.rel hT1.2, F1.rel.size, by simpa using hlow1⟩
              have hro1 : st1.ro = some l := f1.2
              refine code_ok (n := n) hmix hC hcall L.body _ vars _ hL6 _ _ _ he3 G1 a1 _ (some h.b) 0 _ hR1 (by simp only [hro1]; exact ⟨h1, e1, t1, hb1⟩) (F1.marks.ext hT1.2) (Nat.zero_le _) ?_
              intro G3 a3 w3 F3
              have f3 := exec_fr hcall.fr n _ _ _ _ (by simpa using hlow1) he3
              have hE3 := F3.ext 0 (Nat.zero_le _)
              obtain ⟨h3, e3, -, z3, m3, -⟩ := hE3.homes l h1 e1
              have hb3 : h3.b = h.b := (m3 ((z3 t1).trans t1.symm)).1.trans hb1
              obtain ⟨t3, fz3, L3, vars3, r1, r2, r3, r4, r5, r6, r7, r8⟩ := loop_at F3.rel.rel e3 hl3
              have hlenf : H.length ≤ st1.H.length := f1.1.len
              have hlen3 : st1.H.length ≤ st3.H.length := by have := f3.1.len; simpa using this
              have hlow3 : st3.low ≤ st1.low ∧ st3.low ≤ l := by have := f3.1.low; simp only at this; omega
              have hExt : ∀ (jump : Option Code) (ls : LoopState), RelH C fid G3 (st3.H.set l (.loop ls x env3 ps3 as3 bd3)) (w3.putObj h.b (.loop { L3 with state := ls, pending := jump })) ∧
                  Ext G3 w3 G3 (w3.putObj h.b (.loop { L3 with state := ls, pending := jump })) l st3.H.length →
                  ∀ m, m ≤ min st3.low l → Ext G w G3 (w3.putObj h.b (.loop { L3 with state := ls, pending := jump })) m H.length := fun jump ls hT m hm =>
                ((F1.ext m (by omega)).trans ((hT1.2.le (m' := m) (by omega) hlenf))).trans (((F3.ext m (by omega)).le (Nat.le_refl _) (by simpa using hlenf)).trans (hT.2.le (by omega) (Nat.le_trans hlenf hlen3)))
              have hT : ∀ (jump : Option Code) (ls : LoopState), pendRel x jump → RelH C fid G3 (st3.H.set l (.loop ls x env3 ps3 as3 bd3)) (w3.putObj h.b (.loop { L3 with state := ls, pending := jump })) ∧
                  Ext G3 w3 G3 (w3.putObj h.b (.loop { L3 with state := ls, pending := jump })) l st3.H.length := fun jump ls hp => by
                have := turn F3.rel.rel e3 fz3 (.loop { L3 with state := ls, pending := jump }) (.loop ls x env3 ps3 as3 bd3) fun k1 k2 k3 =>
                  ⟨t3, fz3, _, vars3, k2, rfl, hp, r4, r5, r6, r7, fun t ht => (r8 t ht).mono (.refl _) fun b hb => ⟨hb, k3 b hb⟩⟩
                rw [hb3] at this; exact this
              rw [hb3] at r1
              cases x with
              | normal =>
                have T := hT none .ready trivial
                exact ⟨_, _, run_endRound none r1, _, rfl, G3, T.1, hExt none .ready T, .p _ _ (.bool true)⟩
              | exit id =>
                have T := hT (some (.exit id)) .done rfl
                exact ⟨_, _, run_endRound (some (.exit id)) r1, _, rfl, G3, T.1, hExt _ .done T, .p _ _ (.bool false)⟩
              | ret =>
                have T := hT (some .ret) .done trivial
                exact ⟨_, _, run_endRound (some .ret) r1, _, rfl, G3, T.1, hExt _ .done T, .p _ _ (.bool false)⟩
            · cases he
          · cases he
        · cases he
      · cases he
    · cases he
  · cases he

end Go.Abs
/- Calls, whole. -/
namespace Go.Abs
open Go
variable {C : Ctx} {fid : Nat → Nat} {w w' : World} {G G' : Gh} {H H' : Heap} {call : CallT} {n : Nat}

/-! ### what a call leaves -/

theorem ORel.tags {h h' : Home} {o : AObj} (a : ORel C fid G w h o) (b : ORel C fid G' w' h' o) : h.tag = h'.tag ∧ h.fz = h'.fz := by
  cases o with
  | cells vs => exact ⟨a.1.trans b.1.symm, a.2.1.trans b.2.1.symm⟩
  | row es ds fz => exact ⟨a.1.trans b.1.symm, a.2.2.1.trans b.2.2.1.symm⟩
  | map ents => exact ⟨a.1.trans b.1.symm, a.2.1.trans b.2.1.symm⟩
  | loop => exact ⟨a.1.trans b.1.symm, a.2.1.trans b.2.1.symm⟩
  | gone => exact ⟨a.1.trans b.1.symm, a.2.trans b.2.symm⟩

/-- Where no old object was written, the old ones stand where they stood. -/
theorem homes_same (hR : RelH C fid G H w) (hR' : RelH C fid G' H' w') (hle : HomesLe G.β G'.β) (hs : ∀ l, l < H.length → H'[l]? = H[l]?) {l : Nat} {h : Home} (e : G.β l = some h) : G'.β l = some h := by
  obtain ⟨h', e', -, -, m, -⟩ := hle l h e
  obtain ⟨o, ho, r⟩ := hR.obj l h e
  obtain ⟨o', ho', r'⟩ := hR'.obj l h' e'
  rw [hs l (hR.lt e), ho] at ho'
  cases ho'
  obtain ⟨t, f⟩ := r.tags r'
  obtain ⟨mb, mc⟩ := m t.symm
  rw [e']
  congr 1
  cases h; cases h'; simp_all

/-- Back to the old objects, the lists that are never written again kept. -/
theorem forget (hR : RelH C fid G H w) (hR' : RelH C fid G' H' w') {m n : Nat} (hE : Ext G w G' w' m n) (hm : H.length ≤ m) (hn : H.length ≤ n) (hs : ∀ l, l < H.length → H'[l]? = H[l]?) :
    RelH C fid ⟨G.β, G'.I⟩ H w' ∧ (∀ m n, Ext G w ⟨G.β, G'.I⟩ w' m n) ∧ ∀ {v : V} {x : Value}, VRel fid G' w' v x → old H.length v = true → VRel fid ⟨G.β, G'.I⟩ w' v x := by
  have hk := hE.keepAll hR hm
  have hsame := fun l h e => homes_same (l := l) (h := h) hR hR' hE.homes hs e
  refine ⟨⟨fun l h e => ?_, hR.inj, fun l h e => Nat.lt_of_lt_of_le (hR.blk l h e) hE.size, fun b hb => ⟨(hR'.imm b hb).1, fun l h e q => (hR'.imm b hb).2 l h (hsame l h e) q⟩, fun l h e q => hE.imm _ (hR.fzI l h e q),
      fun b o hg => ⟨hE.imm _ (hR.glob b o hg).1, by rw [hk b (hR.imm b (hR.glob b o hg).1).1]; exact (hR.glob b o hg).2⟩⟩, fun m n => ⟨hE.size, hE.os, hE.tape, hE.output, fun b hb _ => hk b hb, .refl _, fun l h e => .inl ⟨h, e, .inl rfl⟩, hE.imm, hE.newI⟩,
    fun hv ho => hv.restrict (G := G') (G' := ⟨G.β, G'.I⟩) (n := H.length) (fun l h hl e => ?_) (fun b hb => ⟨hb, rfl⟩) (.inl ho)⟩
  · obtain ⟨o, ho, r⟩ := hR.obj l h e
    exact ⟨o, ho, ORel.mono (G := G) (G' := ⟨G.β, G'.I⟩) (.refl _) (fun b hb => ⟨hE.imm b hb, hk b (hR.imm b hb).1⟩) (hk _ (hR.blk l h e)) r⟩
  · rcases hE.newH l h e with ⟨h0, e0, -⟩ | ⟨hl', -⟩
    · have := hsame l h0 e0
      rw [e] at this; cases this
      exact ⟨h, e0, rfl⟩
    · omega

theorem olds_append (n : Nat) : ∀ (a b : List V), olds n (a ++ b) = (olds n a && olds n b)
  | [], b => by simp [olds]
  | v :: a, b => by simp [olds, olds_append n a b, Bool.and_assoc]

theorem olds_cells (n : Nat) (v : V) (h : old n v = true) : olds n (cellsV v) = true := by
  cases v <;> simp_all [cellsV, olds, old]

theorem olds_flat (n : Nat) : ∀ {ds : List V}, olds n ds = true → olds n (ds.flatMap cellsV) = true
  | [], _ => rfl
  | d :: ds, h => by
    simp only [olds, Bool.and_eq_true] at h
    rw [List.flatMap_cons, olds_append, olds_cells n d h.1, olds_flat n h.2]; rfl

theorem finish_sound {fresh : Bool} {H1 : Heap} {v v' : V} {low low' : Nat} {x : Value} (hR : RelH C fid G H w) (hR' : RelH C fid G' H1 w') (hE : ∀ m, m ≤ low → Ext G w G' w' m H.length) (hf : Fr H H.length H1 low)
    (hv : VRel fid G' w' v x) (he : finish fresh H v H1 low = some (v', H', low')) : Post C fid G H w v' H' low' x w' := by
  unfold finish at he
  split at he
  · rename_i l es off len tag
    split at he
    · rename_i es' ds hl
      split at he
      · rename_i hc
        obtain ⟨c1, c2, c3, c4, c5⟩ := hc
        subst c3 c4
        cases he
        have hs := fun l hl' => hf.same l (Nat.lt_of_lt_of_le hl' c1)
        have hE0 := hE H.length c1
        obtain ⟨p1, p2, -⟩ := forget hR hR' hE0 (Nat.le_refl _) (Nat.le_refl _) hs
        obtain ⟨h, a, m, cap, hb, hle, ha, rfl⟩ := hv.srefInv
        obtain ⟨o, ho, hr⟩ := hR'.obj l h hb
        rw [hl] at ho; cases ho
        have hkb : w.heap.size ≤ h.b := by
          rcases hE0.newH l h hb with ⟨h0, e0, -⟩ | ⟨-, q⟩
          · have := hR.lt e0; omega
          · exact q
        have hnone := hR.none (Nat.le_refl H.length)
        let G2 : Gh := ⟨upd G.β H.length h, G'.I⟩
        have hle2 : HomesLe G.β G2.β := homes_upd_new hnone h
        have hsame := fun l h e => homes_same (l := l) (h := h) hR hR' hE0.homes hs e
        have hret : ∀ {vs : List V} {xs : List Value}, VRels fid G' w' vs xs → olds H.length vs = true → VRels fid G2 w' vs xs := fun hvs hold =>
          hvs.restrict (G := G') (G' := G2) (n := H.length) (fun y h0 hy e => by
            rcases hE0.newH y h0 e with ⟨h1, e1, -⟩ | ⟨hl', -⟩
            · have := hsame y h1 e1
              rw [e] at this; cases this
              exact ⟨h0, by show upd _ _ _ _ = _; rw [upd_other (by omega)]; exact e1, rfl⟩
            · omega) (fun b hb => ⟨hb, rfl⟩) (.inl hold)
        have hO : ORel C fid G2 w' h (.row es' ds false) := by
          obtain ⟨r1, r2, r3, r4, r5, c, e, vals, rest, r6, r7, r8, r9⟩ := hr
          exact ⟨r1, r2, r3, r4, r5, c, e, vals, rest, r6, r7, r8, hret r9 (olds_flat _ c5)⟩
        refine ⟨G2, ⟨fun y h0 e => ?_, fun y z h0 h1 e1 e2 q => ?_, fun y h0 e => ?_, fun b hb => ⟨(hR'.imm b hb).1, fun y h0 e q => ?_⟩, fun y h0 e q => ?_, p1.glob⟩, fun m hm => ?_, ?_⟩
        · by_cases hy : y = H.length
          · subst hy; rw [show G2.β = upd _ _ _ from rfl, upd_same] at e; cases e
            exact ⟨_, by simp, hO⟩
          · rw [show G2.β = upd _ _ _ from rfl, upd_other hy] at e
            obtain ⟨o, ho, r⟩ := p1.obj y h0 e
            exact ⟨o, by rw [List.getElem?_append_left (hR.lt e)]; exact ho, ORel.mono (G := ⟨G.β, G'.I⟩) (G' := G2) hle2 (fun b hb => ⟨hb, rfl⟩) rfl r⟩
        · by_cases hy : y = H.length <;> by_cases hz : z = H.length
          · rw [hy, hz]
          · subst hy; rw [show G2.β = upd _ _ _ from rfl, upd_same] at e1; cases e1
            rw [show G2.β = upd _ _ _ from rfl, upd_other hz] at e2
            have := hR.blk z h1 e2; omega
          · subst hz; rw [show G2.β = upd _ _ _ from rfl, upd_same] at e2; cases e2
            rw [show G2.β = upd _ _ _ from rfl, upd_other hy] at e1
            have := hR.blk y h0 e1; omega
          · rw [show G2.β = upd _ _ _ from rfl, upd_other hy] at e1
            rw [show G2.β = upd _ _ _ from rfl, upd_other hz] at e2
            exact hR.inj y z h0 h1 e1 e2 q
        · by_cases hy : y = H.length
          · subst hy; rw [show G2.β = upd _ _ _ from rfl, upd_same] at e; cases e; exact hR'.blk l h hb
          · rw [show G2.β = upd _ _ _ from rfl, upd_other hy] at e; exact p1.blk y h0 e
        · by_cases hy : y = H.length
          · subst hy; rw [show G2.β = upd _ _ _ from rfl, upd_same] at e; cases e
            exact (hR'.imm b hb).2 l h (by assumption) q
          · rw [show G2.β = upd _ _ _ from rfl, upd_other hy] at e; exact p1.imm b hb |>.2 y h0 e q
        · by_cases hy : y = H.length
          · subst hy; rw [show G2.β = upd _ _ _ from rfl, upd_same] at e; cases e
            exact hR'.fzI l h hb q
          · rw [show G2.β = upd _ _ _ from rfl, upd_other hy] at e; exact p1.fzI y h0 e q
        · have q := p2 m H.length
          exact ⟨q.size, q.os, q.tape, q.output, q.keep, hle2, fun y h0 e => by
            by_cases hy : y = H.length
            · subst hy; rw [show G2.β = upd _ _ _ from rfl, upd_same] at e; cases e; exact .inr ⟨Nat.le_refl _, hkb⟩
            · rw [show G2.β = upd _ _ _ from rfl, upd_other hy] at e; exact .inl ⟨h0, e, .inl rfl⟩, q.imm, q.newI⟩
        · exact .sref H.length es' off len _ h a m cap (upd_same _ _ _) hle ha
      · cases he
    · cases he
  · split at he
    · rename_i v1 H2 low2 hz
      obtain ⟨G2, fz, hv2⟩ := freezeV_sound hR' hv hz
      have hfr := hf.trans (freezeV_fr hz).1
      have hE2 : ∀ m, m ≤ low2 → Ext G w G2 w' m H.length := fun m hm => (hE m (Nat.le_trans hm fz.low)).trans ((fz.ext m hm).le (Nat.le_refl _) hf.len)
      split at he
      · rename_i hc
        cases he
        obtain ⟨p1, p2, p3⟩ := forget hR fz.rel (hE2 H.length hc.1) (Nat.le_refl _) (Nat.le_refl _) (fun l hl => hfr.same l (Nat.lt_of_lt_of_le hl hc.1))
        exact ⟨_, p1, fun m _ => p2 m _, p3 hv2 hc.2⟩
      · cases he
        exact ⟨G2, fz.rel, hE2, hv2⟩
    · cases he

/-! ### the results of a body -/

theorem loadA_addr {sh : Option Nat} {a u : V} {x : Value} (ha : VRel fid G w a x) (he : loadA H sh a = some u) : ∃ ad, x = .pointer (some ad) := by
  unfold loadA at he
  split at he
  · obtain ⟨h, -, -, rfl⟩ := ha.ptrInv; exact ⟨_, rfl⟩
  · obtain ⟨h, ad, -, -, -, rfl⟩ := ha.eptrInv; exact ⟨_, rfl⟩
  · cases ha with
    | pin _ f b o vals _ _ _ => exact ⟨_, rfl⟩
    | p _ _ h => cases h
  · cases he

def resOne (tmps : Array Value) : ResultVar → Sem Value
  | .tmp t => pure (tmps.getD t undef)
  | .cell a t => do loadVar t (← asAddr (tmps.getD a undef))

theorem resOne_run {r : ResultVar} {ar : ARes} (hr : C.res r = some ar) {vE : Env} {tmps : Array Value} (hR : RelH C fid G H w) (hv : ∀ t ∈ Ctx.resSlots [r], VRel fid G w (lookupE vE t) (tmps.getD t undef)) {v : V} (he : resultA vE H ar = some v) :
    ∃ x, (resOne tmps r).run C.P w = .ok x w ∧ VRel fid G w v x := by
  cases r with
  | tmp t =>
    simp only [Ctx.res, Option.some.injEq] at hr
    subst hr
    simp only [resultA, Option.some.injEq] at he
    subst he
    exact ⟨_, rfl, hv t (by simp [Ctx.resSlots])⟩
  | cell a t =>
    simp only [Ctx.res] at hr
    obtain ⟨sh, hsh, rfl⟩ := Option.map_eq_some_iff.1 hr
    simp only [resultA] at he
    have ha := hv a (by simp [Ctx.resSlots])
    obtain ⟨y, hy, hu⟩ := loadA_sound hR hsh ha he
    obtain ⟨ad, had⟩ := loadA_addr ha he
    rw [had] at hy
    refine ⟨y, ?_, hu⟩
    simp only [resOne, had, asAddr, Sem.run_bind, Sem.run_pure, Result.andThen_ok]
    simpa only [Instr.loadAt, Instr.sureAddr, Sem.run_bind, Sem.run_pure, Result.andThen_ok] using hy

theorem resSlots_cons (r : ResultVar) (rs : List ResultVar) : Ctx.resSlots (r :: rs) = Ctx.resSlots [r] ++ Ctx.resSlots rs := by cases r <;> rfl

theorem results_list : ∀ {rs : List ResultVar} {ars : List ARes}, mapO C.res rs = some ars → ∀ {vE : Env} {tmps : Array Value}, RelH C fid G H w → (∀ t ∈ Ctx.resSlots rs, VRel fid G w (lookupE vE t) (tmps.getD t undef)) →
    ∀ {vs : List V}, resultsA vE H ars = some vs → ∃ xs, (rs.mapM (resOne tmps)).run C.P w = .ok xs w ∧ VRels fid G w vs xs
  | [], ars, hm, vE, tmps, hR, hv, vs, he => by
    simp only [mapO, Option.some.injEq] at hm
    subst hm
    simp only [resultsA, Option.some.injEq] at he
    subst he
    exact ⟨[], by simp, .nil⟩
  | r :: rs, ars, hm, vE, tmps, hR, hv, vs, he => by
    simp only [mapO] at hm
    split at hm
    · rename_i ar h1
      split at hm
      · rename_i ars' h2
        cases hm
        simp only [resultsA] at he
        split at he
        · rename_i v h3
          split at he
          · rename_i vs' h4
            cases he
            rw [resSlots_cons] at hv
            obtain ⟨x, hx, hvx⟩ := resOne_run h1 hR (fun t ht => hv t (List.mem_append.2 (.inl ht))) h3
            obtain ⟨xs, hxs, hvs⟩ := results_list h2 hR (fun t ht => hv t (List.mem_append.2 (.inr ht))) h4
            refine ⟨x :: xs, ?_, .cons _ _ _ _ hvx hvs⟩
            rw [List.mapM_cons, Sem.run_bind, hx, Result.andThen_ok, Sem.run_bind, hxs, Result.andThen_ok, Sem.run_pure]
          · cases he
        · cases he
      · cases hm
    · cases hm

def tupV : List V → V
  | [v] => v
  | vs => .tup vs

theorem results_run {fn : Func} {ars : List ARes} (hm : mapO C.res fn.results.toList = some ars) {vE : Env} {tmps : Array Value} (hR : RelH C fid G H w) (hv : ∀ t ∈ Ctx.resSlots fn.results.toList, VRel fid G w (lookupE vE t) (tmps.getD t undef))
    {vs : List V} (he : resultsA vE H ars = some vs) : ∃ x, (results fn tmps).run C.P w = .ok x w ∧ VRel fid G w (tupV vs) x := by
  obtain ⟨xs, hx, hvs⟩ := results_list hm hR hv he
  have e : results fn tmps = (do let vs ← fn.results.mapM (resOne tmps); pure (if h : vs.size = 1 then vs[0] else .tuple vs)) := by
    unfold results
    congr 1
  rw [e]
  refine ⟨if h : (⟨xs⟩ : Array Value).size = 1 then (⟨xs⟩ : Array Value)[0] else .tuple ⟨xs⟩, ?_, ?_⟩
  · rw [Sem.run_bind, Array.mapM_eq_mapM_toList, Sem.run_map, hx]
    simp only [Result.andThen_ok, Sem.run_pure]
  · cases hvs with
    | nil => exact .tup [] [] .nil
    | cons v x vs xs h hs =>
      cases hs with
      | nil => exact h
      | cons v2 x2 vs2 xs2 h2 hs2 =>
        have : ¬ (⟨x :: x2 :: xs2⟩ : Array Value).size = 1 := by simp
        rw [dif_neg this]
        exact .tup _ _ (.cons _ _ _ _ h (.cons _ _ _ _ h2 hs2))

end Go.Abs
/- Every call that the executor makes goes as it says. -/
namespace Go.Abs
open Go
variable {C : Ctx} {fid : Nat → Nat} {w w' : World} {G G' : Gh} {H H' : Heap} {call : CallT} {n : Nat}

theorem RelH.putFree (hR : RelH C fid G H w) {r : Nat} (hh : ∀ l h, G.β l = some h → h.b ≠ r) (hi : ¬ G.I r) (o : Obj) : RelH C fid G H (w.putObj r o) where
  obj l h e := by
    obtain ⟨o, ho, hr⟩ := hR.obj l h e
    exact ⟨o, ho, hr.mono (.refl _) (fun b hb => ⟨hb, World.putObj_heap_other fun q => hi (by rw [← q]; exact hb)⟩) (World.putObj_heap_other (hh l h e))⟩
  inj := hR.inj
  blk l h e := by rw [World.putObj_size]; exact hR.blk l h e
  imm b hb := by rw [World.putObj_size]; exact hR.imm b hb
  fzI := hR.fzI
  glob b o hg := ⟨(hR.glob b o hg).1, by rw [World.putObj_heap_other (k := b) (r := r) fun q => hi (by rw [← q]; exact (hR.glob b _ hg).1)]; exact (hR.glob b o hg).2⟩

theorem Ext.putFree {w0 : World} {G0 : Gh} {m k : Nat} (hE : Ext G0 w0 G w m k) {r : Nat} (hr : w0.heap.size ≤ r) (o : Obj) : Ext G0 w0 G (w.putObj r o) m k :=
  ⟨by rw [World.putObj_size]; exact hE.size, hE.os, hE.tape, hE.output, fun b hb hk => by rw [World.putObj_heap_other (by omega)]; exact hE.keep b hb hk, hE.homes, hE.newH, hE.imm, hE.newI⟩

/-- The blocks for the deferred calls are shut, one after the other. -/
theorem leaves_marks {fn : Func} {tmps : Array Value} {R : Ending → World → Prop} {w0 : World} {G0 : Gh} {m0 : Nat → Prop} {k0 : Nat} :
    ∀ (rs : List Nat) (w : World), rs.Nodup → (∀ r ∈ rs, MarkOk G w w0.heap.size r) → RelH C fid G H w → (∀ m, m0 m → Ext G0 w0 G w m k0) → (∀ v x, VRel fid G w v x → True) →
      (∀ w2, RelH C fid G H w2 → (∀ m, m0 m → Ext G0 w0 G w2 m k0) → (∀ {v : V} {x : Value}, VRel fid G w v x → VRel fid G w2 v x) → ∃ v, (results fn tmps).run C.P w2 = .ok v w2 ∧ R (.returned v) w2) →
      LeavesInM Fence.wide 0 C.P fn tmps R (rs.map markOf) .returning w
  | [], w, _, _, hR, hE, _, hfin => hfin w hR hE fun h => h
  | r :: rs, w, nd, hm, hR, hE, _, hfin => by
    have hr := hm r (by simp)
    have nd' := List.nodup_cons.1 nd
    refine ⟨by simp, .inl ⟨r, w.putObj r (.deferred none), rfl, run_takeDeferred hr.obj, ?_⟩⟩
    have hv : ∀ {v : V} {x : Value}, VRel fid G w v x → VRel fid G (w.putObj r (.deferred none)) v x := fun h =>
      h.mono (.refl _) fun b hb => ⟨hb, World.putObj_heap_other fun q => hr.imm (by rw [← q]; exact hb)⟩
    refine leaves_marks rs _ nd'.2 (fun q hq => ?_) (hR.putFree hr.home hr.imm _) (fun m hm => (hE m hm).putFree hr.base _) (fun _ _ _ => trivial) fun w2 a b c => hfin w2 a b fun h => c (hv h)
    have k := hm q (by simp [hq])
    have hne : q ≠ r := fun e => nd'.1 (e ▸ hq)
    exact ⟨k.base, by rw [World.putObj_size]; exact k.lt, by rw [World.putObj_heap_other hne]; exact k.obj, k.home, k.imm⟩

theorem zipE_look : ∀ (vs : List V) (i t : Nat), lookupE (zipE i vs) t = if i ≤ t then (vs[t - i]?).getD .undef else .undef
  | [], i, t => by simp [zipE, lookupE]
  | v :: r, i, t => by
    simp only [zipE, lookupE]
    by_cases h : i = t
    · subst h; simp
    · rw [if_neg h, zipE_look r (i + 1) t]
      by_cases h2 : i ≤ t
      · rw [if_pos h2, if_pos (by omega)]
        have : t - i = (t - (i + 1)) + 1 := by omega
        rw [this, List.getElem?_cons_succ]
      · rw [if_neg h2, if_neg (by omega)]

theorem func_inv {fn : Func} {fresh : Bool} {f : AFunc} (h : C.func fn fresh = some f) :
    ∃ c, fn.body = some c ∧ C.code (Ctx.varsOf fn) fn.ntmps c = some f.body ∧ mapO C.res fn.results.toList = some f.results ∧ (fn.name == "runtime.NumGoroutine") = false ∧ f.nslots = fn.ntmps ∧ f.fresh = fresh := by
  unfold Ctx.func at h
  split at h
  · rename_i c hb
    split at h
    · rename_i b rs h1 h2
      split at h
      · cases h
      · rename_i hn
        cases h
        exact ⟨c, hb, h1, h2, by simpa using hn, rfl, rfl⟩
    · cases h
  · cases h

theorem resSlots_vars {fn : Func} {t : Nat} (h : t ∈ Ctx.resSlots fn.results.toList) : t ∈ Ctx.varsOf fn := by
  unfold Ctx.varsOf
  rw [List.mem_eraseDups]
  simp [h]

theorem body_sound (hmix : C.P.follows .mixedOrders = true) (hC : CtxOk C fid) (hcall : CallOk C fid call) {fi : Nat} {f : AFunc} {fn : Func} (hf : C.P.funcs[fi]? = some fn) (hfn : C.func fn f.fresh = some f)
    {args : List V} {v : V} {low' : Nat} {xs : List Value} (he : callBody (exec call n) f args H = some (v, H', low')) (hR : RelH C fid G H w) (hv : VRels fid G w args xs) :
    Calls C.P fi ⟨xs⟩ w (fun e w' => ∃ x, e = .returned x ∧ Post C fid G H w v H' low' x w') := by
  obtain ⟨c, hb, hcode, hres, -, hns, -⟩ := func_inv hfn
  unfold callBody at he
  split at he
  · rename_i hlen
    have hxl := hv.length
    have hR0 : RelSt C fid (Ctx.varsOf fn) fn.ntmps G { tE := [], vE := zipE 0 args, H, low := H.length } { tmps := (⟨xs⟩ : Array Value) ++ Array.replicate (fn.ntmps - (⟨xs⟩ : Array Value).size) undef, defers := [] } w := by
      refine ⟨hR, fun t => ?_, ?_, Nat.le_refl _⟩
      · unfold lookS
        split
        · rw [zipE_look]
          simp only [Nat.zero_le, if_true, Nat.sub_zero]
          cases ha : args[t]? with
          | none => exact .undef _
          | some u =>
            obtain ⟨x, hx, hux⟩ := hv.get ha
            have hlt : t < xs.length := by
              rcases Nat.lt_or_ge t xs.length with h | h
              · exact h
              · simp [List.getElem?_eq_none h] at hx
            have : ((⟨xs⟩ : Array Value) ++ Array.replicate (fn.ntmps - (⟨xs⟩ : Array Value).size) undef).getD t undef = x := by
              rw [Array.getD_eq_getD_getElem?, Array.getElem?_append_left (by simpa using hlt)]
              simp [hx]
            rw [this]; exact hux
        · exact .undef _
      · simp only [Array.size_append, Array.size_replicate]
        show xs.length + (fn.ntmps - xs.length) = fn.ntmps
        rw [hxl, ← hns]; omega
    -- what is asked at the end
    have hend : ∀ (st : St) (G' : Gh) (a' : Act) (w' : World), FrS { tE := [], vE := zipE 0 args, H, low := H.length } st → (∃ vs, resultsA st.vE st.H f.results = some vs ∧ finish f.fresh H (tupV vs) st.H st.low = some (v, H', low')) →
        Fin C fid (Ctx.varsOf fn) fn.ntmps w.heap.size { tE := [], vE := zipE 0 args, H, low := H.length } G w st G' a' w' →
        LeavesInM Fence.wide 0 C.P fn a'.tmps (fun e w' => ∃ x, e = .returned x ∧ Post C fid G H w v H' low' x w') a'.defers .returning w' := by
      rintro st G' a' w' hfr ⟨vs, hr, hfi⟩ F
      obtain ⟨rs, hrs, nd, hm⟩ := F.marks
      rw [hrs]
      refine leaves_marks (m0 := fun m => m ≤ st.low) rs w' nd hm F.rel.rel F.ext (fun _ _ _ => trivial) fun w2 k1 k2 k3 => ?_
      obtain ⟨x, hx, hux⟩ := results_run hres k1 (fun t ht => by
        have := F.rel.env t
        rw [lookS_var (resSlots_vars ht)] at this
        exact k3 this) hr
      exact ⟨x, hx, x, rfl, finish_sound hR k1 k2 hfr.1 hux hfi⟩
    have htup : ∀ {st : St}, (match resultsA st.vE st.H f.results with | some [v] => finish f.fresh H v st.H st.low | some vs => finish f.fresh H (.tup vs) st.H st.low | none => none) = some (v, H', low') →
        ∃ vs, resultsA st.vE st.H f.results = some vs ∧ finish f.fresh H (tupV vs) st.H st.low = some (v, H', low') := fun {st} h => by
      split at h
      · rename_i u hr; exact ⟨[u], hr, h⟩
      · rename_i vs hne hr
        refine ⟨vs, hr, ?_⟩
        have : tupV vs = .tup vs := by
          cases vs with
          | nil => rfl
          | cons a r =>
            cases r with
            | nil => exact absurd rfl (hne a)
            | cons b r => rfl
        rw [this]; exact h
      · cases h
    have go : ∀ (X0 : X) (st : St), (X0 = .normal ∨ X0 = .ret) → exec call n f.body { tE := [], vE := zipE 0 args, H, low := H.length } = some (X0, st) →
        (∃ vs, resultsA st.vE st.H f.results = some vs ∧ finish f.fresh H (tupV vs) st.H st.low = some (v, H', low')) → Calls C.P fi ⟨xs⟩ w (fun e w' => ∃ x, e = .returned x ∧ Post C fid G H w v H' low' x w') := fun X0 st hX hex hfi => by
      refine (callsIn_wide (n := 0)).1 (callsIn_of_wp_marks hf hb trivial ?_)
      have hfr := exec_fr hcall.fr n _ _ _ _ (Nat.le_refl _) hex
      refine code_ok (n := n) hmix hC hcall c _ _ _ hcode _ _ _ hex G _ w none w.heap.size _ hR0 trivial (.nil _ _ _) (Nat.le_refl _) fun G' a' w' F => ?_
      have := hend st G' a' w' hfr hfi F
      rcases hX with rfl | rfl
      · exact this
      · exact this
    split at he
    · rename_i st hex; exact go _ st (.inl rfl) hex (htup he)
    · rename_i st hex; exact go _ st (.inr rfl) hex (htup he)
    · cases he
  · cases he

theorem callFunc_run {fi : Nat} {fn : Func} {c : Code} (hf : C.P.funcs[fi]? = some fn) (hb : fn.body = some c) (hn : (fn.name == "runtime.NumGoroutine") = false) (as : Array Value) :
    (callFunc fi as).run C.P w = .ok (.enter fi as) w := by
  unfold callFunc
  have hn' : ¬ fn.name = "runtime.NumGoroutine" := by simpa using hn
  simp [Sem.run_bind, Sem.run, program, hf, hb, hn', Result.andThen]

theorem callN_ok (hmix : C.P.follows .mixedOrders = true) (hC : CtxOk C fid) {tab : Nat → Option Fun} (hT : TabOk C fid tab) : ∀ (n : Nat), CallOk C fid (callN tab n)
  | 0 => ⟨callN_fr tab 0, fun _ _ _ he => by simp [callN] at he⟩
  | n + 1 => by
    have ih := callN_ok hmix hC hT n
    refine ⟨callN_fr tab (n + 1), fun {G H w f args v H' low' xf xs} hR hvf hva he => ?_⟩
    simp only [callN, callV] at he
    split at he
    · rename_i i first caps
      obtain ⟨fs, cs, hf1, hc1, hxf⟩ := hvf.fnInv
      subst hxf
      have hargs : VRels fid G w (first ++ args ++ caps) (fs ++ xs ++ cs) := (hf1.append hva).append hc1
      have hcallee : (invoke (.fn (.func (fid i)) ⟨cs⟩) ((⟨fs⟩ : Array Value) ++ ⟨xs⟩)).run C.P w = (callFunc (fid i) ⟨fs ++ xs ++ cs⟩).run C.P w := by
        simp [invoke]
      refine ⟨{ target := .fn (.func (fid i)) ⟨cs⟩, args := (⟨fs⟩ : Array Value) ++ ⟨xs⟩ }, rfl, ?_⟩
      rw [hcallee]
      split at he
      · rename_i fn0 htab
        obtain ⟨fn, hfn, hfun⟩ := hT.code i fn0 htab
        obtain ⟨c, hb, -, -, hname, -⟩ := func_inv hfun
        rw [callFunc_run hfn hb hname]
        exact ⟨body_sound hmix hC ih hfn hfun he hR hargs, fun _ _ => ⟨_, _, rfl⟩⟩
      · rename_i spec htab
        split at he
        · rename_i hp
          obtain ⟨u, hu, he⟩ := Option.map_eq_some_iff.1 he
          cases he
          refine ⟨hT.ext i spec htab hR (hargs.toP hp) hu, fun _ hna => ?_⟩
          rw [isPs_append, isPs_append] at hp
          simp [hna] at hp
        · cases he
      · cases he
    · rename_i l
      obtain ⟨h, hb, ht, rfl⟩ := hvf.yieldInv
      refine ⟨{ target := .fn (.yield h.b) #[], args := #[] ++ ⟨xs⟩ }, rfl, ?_, fun hfn => by simp [isFn] at hfn⟩
      have : (invoke (.fn (.yield h.b) #[]) (#[] ++ (⟨xs⟩ : Array Value))).run C.P w = (Instr.yield h.b ⟨xs⟩).run C.P w := by simp [invoke]
      rw [this]
      exact yield_sound hmix hC ih he hR hb hva
    · cases he

/-- A call, whole. -/
theorem calls_of_exec (hmix : C.P.follows .mixedOrders = true) (hC : CtxOk C fid) {tab : Nat → Option Fun} (hT : TabOk C fid tab) {n i : Nat} {f : AFunc} (hi : tab i = some (.code f)) {args : List V} {v : V} {low' : Nat} {xs : List Value}
    (he : callN tab n (.fn i [] []) args H = some (v, H', low')) (hR : RelH C fid G H w) (hv : VRels fid G w args xs) :
    Calls C.P (fid i) ⟨xs⟩ w (fun e w' => ∃ x, e = .returned x ∧ Post C fid G H w v H' low' x w') := by
  cases n with
  | zero => simp [callN] at he
  | succ n =>
    simp only [callN, callV, hi, List.nil_append, List.append_nil] at he
    obtain ⟨fn, hfn, hfun⟩ := hT.code i f hi
    exact body_sound hmix hC (callN_ok hmix hC hT n) hfn hfun he hR hv

end Go.Abs
/- More fuel changes no answer; the executor without a limit. Nothing here speaks of the real memory. -/
namespace Go.Abs

def CallLe (a b : CallT) : Prop := ∀ f args H r, a f args H = some r → b f args H = some r

variable {call call' : CallT}

theorem stepC_mono (h : CallLe call call') {ev : Opd → V} {H : Heap} {low : Nat} {op : AOp} {r : V × Heap × Nat} (he : stepC call ev H low op = some r) : stepC call' ev H low op = some r := by
  cases op with
  | call raw f args =>
    cases raw
    · simp only [stepC] at he ⊢
      split at he
      · rename_i vs H1 low1 h1
        split at he
        · rename_i u H2 l h2
          rw [h _ _ _ _ h2]
          exact he
        · cases he
      · cases he
    · simp only [stepC] at he ⊢
      split at he
      · rename_i u H2 l h2
        rw [h _ _ _ _ h2]
        exact he
      · cases he
  | _ => exact he

theorem execOps_mono (h : CallLe call call') : ∀ (ops : List AOper) (st : St) (wr : List Bool) (r : St × List Bool), execOps call ops st wr = some r → execOps call' ops st wr = some r
  | [], st, wr, r, he => he
  | o :: ops, st, wr, r, he => by
    simp only [execOps] at he ⊢
    split at he
    · rename_i hw
      try simp only [hw]
      split at he
      · rename_i v H' low' h1
        rw [stepC_mono h h1]
        exact execOps_mono h ops _ _ _ he
      · cases he
    · rename_i hw
      try simp only [hw]
      exact execOps_mono h ops _ _ _ he
    · cases he

theorem iter_mono {f f' : St → Option (X × St)} (h : ∀ st r, f st = some r → f' st = some r) : ∀ (n m : Nat) (st : St) (r : X × St), n ≤ m → iter f n st = some r → iter f' m st = some r
  | 0, _, _, _, _, he => by cases he
  | n + 1, 0, _, _, hle, _ => by omega
  | n + 1, m + 1, st, r, hle, he => by
    simp only [iter] at he ⊢
    split at he
    · rename_i st1 h1
      rw [h _ _ h1]
      exact iter_mono h n m _ _ (by omega) he
    · rename_i hne
      rw [h _ _ he]
      split
      · rename_i st' e; cases e; exact absurd he (hne _)
      · rfl

theorem exec_mono (h : CallLe call call') {n m : Nat} (hle : n ≤ m) : ∀ (c : ACode) (st : St) (r : X × St), exec call n c st = some r → exec call' m c st = some r
  | .skip, st, r, he => he
  | .region ops bef, st, r, he => by
    simp only [exec] at he ⊢
    split at he
    · rename_i st1 wr h1
      rw [execOps_mono h _ _ _ _ h1]
      exact he
    · cases he
  | .seq a b, st, r, he => by
    simp only [exec] at he ⊢
    split at he
    · rename_i st1 h1
      rw [exec_mono h hle a _ _ h1]
      exact exec_mono h hle b _ _ he
    · rename_i hne
      rw [exec_mono h hle a _ _ he]
      split
      · rename_i st1 e; cases e; exact absurd he (hne _)
      · rfl
  | .cond c t e, st, r, he => by
    simp only [exec] at he ⊢
    split at he
    · exact exec_mono h hle t _ _ he
    · exact exec_mono h hle e _ _ he
    · cases he
  | .block id c, st, r, he => by
    simp only [exec] at he ⊢
    split at he
    · rename_i id' st1 h1
      rw [exec_mono h hle c _ _ h1]
      exact he
    · rename_i hne
      rw [exec_mono h hle c _ _ he]
      split
      · rename_i id' st1 e; cases e; exact absurd he (hne _ _)
      · rfl
  | .loop c, st, r, he => by
    simp only [exec] at he ⊢
    exact iter_mono (fun st r hr => exec_mono h hle c st r hr) n m st r hle he
  | .rangeFunc f ps a b, st, r, he => by
    simp only [exec] at he ⊢
    split at he
    · cases he
    · rename_i hc
      try rw [if_neg hc]
      split at he
      · rename_i u H1 low1 h1
        rw [h _ _ _ _ h1]
        exact he
      · cases he
  | .exit id, st, r, he => he
  | .ret, st, r, he => he
  | .fail, st, r, he => he

def ExLe (ex ex' : ACode → St → Option (X × St)) : Prop := ∀ c st r, ex c st = some r → ex' c st = some r

theorem callBody_mono {ex ex' : ACode → St → Option (X × St)} (h : ExLe ex ex') {f : AFunc} {args : List V} {H : Heap} {r : V × Heap × Nat} (he : callBody ex f args H = some r) : callBody ex' f args H = some r := by
  unfold callBody at he ⊢
  split at he
  · rename_i hl
    rw [if_pos hl]
    split at he
    · rename_i st h1; rw [h _ _ _ h1]; exact he
    · rename_i st h1; rw [h _ _ _ h1]; exact he
    · cases he
  · cases he

theorem yieldBody_mono {ex ex' : ACode → St → Option (X × St)} (h : ExLe ex ex') {l : Nat} {args : List V} {H : Heap} {r : V × Heap × Nat} (he : yieldBody ex l args H = some r) : yieldBody ex' l args H = some r := by
  unfold yieldBody at he ⊢
  split at he
  · split at he
    · rename_i hl
      simp only [hl, if_true]
      split at he
      · rename_i st h1
        simp only [h _ _ _ h1]
        split at he
        · rename_i h2
          try simp only [h2]
          split at he
          · rename_i h3
            simp only [h _ _ _ h3]
            exact he
          · cases he
        · cases he
      · cases he
    · cases he
  · cases he

theorem callN_step (tab : Nat → Option Fun) : ∀ n, CallLe (callN tab n) (callN tab (n + 1))
  | 0 => fun f args H r he => by simp [callN] at he
  | n + 1 => fun f args H r he => by
    have hx : ExLe (exec (callN tab n) n) (exec (callN tab (n + 1)) (n + 1)) := fun c st r hr => exec_mono (callN_step tab n) (Nat.le_succ n) c st r hr
    show callV tab (callN tab (n + 1)) (n + 1) f args H = some r
    change callV tab (callN tab n) n f args H = some r at he
    unfold callV at he ⊢
    split at he
    · split at he
      · rename_i h1; try simp only [h1]
        exact callBody_mono hx he
      · rename_i h1; try simp only [h1]
        exact he
      · cases he
    · exact yieldBody_mono hx he
    · cases he

theorem callN_mono (tab : Nat → Option Fun) {n : Nat} : ∀ {m : Nat}, n ≤ m → CallLe (callN tab n) (callN tab m)
  | 0, h => by have : n = 0 := by omega
               subst this; exact fun _ _ _ _ h => h
  | m + 1, h => by
    rcases Nat.lt_or_ge n (m + 1) with h1 | h1
    · exact fun f args H r he => callN_step tab m f args H r (callN_mono tab (m := m) (by omega) f args H r he)
    · have : n = m + 1 := by omega
      subst this; exact fun _ _ _ _ h => h

/-! ### without a limit -/

open Classical in
noncomputable def callL (tab : Nat → Option Fun) : CallT := fun f args H => if h : ∃ r n, callN tab n f args H = some r then some h.choose else none

open Classical in
noncomputable def execL (tab : Nat → Option Fun) (c : ACode) (st : St) : Option (X × St) := if h : ∃ r n, exec (callN tab n) n c st = some r then some h.choose else none

variable {tab : Nat → Option Fun}

theorem callL_iff {f : V} {args : List V} {H : Heap} {r : V × Heap × Nat} : callL tab f args H = some r ↔ ∃ n, callN tab n f args H = some r := by
  unfold callL
  constructor
  · intro h
    split at h
    · rename_i hex; cases h; exact hex.choose_spec
    · cases h
  · rintro ⟨n, hn⟩
    have hex : ∃ r n, callN tab n f args H = some r := ⟨r, n, hn⟩
    rw [dif_pos hex]
    obtain ⟨m, hm⟩ := hex.choose_spec
    have a := callN_mono tab (Nat.le_max_left n m) _ _ _ _ hn
    have b := callN_mono tab (Nat.le_max_right n m) _ _ _ _ hm
    rw [a] at b
    exact b.symm

theorem exec_up {n m : Nat} (hle : n ≤ m) {c : ACode} {st : St} {r : X × St} (h : exec (callN tab n) n c st = some r) : exec (callN tab m) m c st = some r := exec_mono (callN_mono tab hle) hle c st r h

theorem execL_iff {c : ACode} {st : St} {r : X × St} : execL tab c st = some r ↔ ∃ n, exec (callN tab n) n c st = some r := by
  unfold execL
  constructor
  · intro h
    split at h
    · rename_i hex; cases h; exact hex.choose_spec
    · cases h
  · rintro ⟨n, hn⟩
    have hex : ∃ r n, exec (callN tab n) n c st = some r := ⟨r, n, hn⟩
    rw [dif_pos hex]
    obtain ⟨m, hm⟩ := hex.choose_spec
    have a := exec_up (Nat.le_max_left n m) hn
    have b := exec_up (Nat.le_max_right n m) hm
    rw [a] at b
    exact b.symm

theorem callN_le_L (n : Nat) : CallLe (callN tab n) (callL tab) := fun _ _ _ _ h => callL_iff.2 ⟨n, h⟩

theorem opt_ext {α : Type} {a b : Option α} (h : ∀ r, a = some r ↔ b = some r) : a = b := by
  cases a with
  | none => cases b with
    | none => rfl
    | some y => exact absurd ((h y).2 rfl) (by simp)
  | some x => exact ((h x).1 rfl).symm

theorem stepC_lim {ev : Opd → V} {H : Heap} {low : Nat} {op : AOp} {r : V × Heap × Nat} : stepC (callL tab) ev H low op = some r ↔ ∃ n, stepC (callN tab n) ev H low op = some r := by
  constructor
  · intro he
    cases op with
    | call raw f args =>
      cases raw
      · simp only [stepC] at he ⊢
        split at he
        · rename_i vs H1 low1 h1
          split at he
          · rename_i u H2 l h2
            obtain ⟨n, hn⟩ := callL_iff.1 h2
            exact ⟨n, by rw [hn]; exact he⟩
          · cases he
        · cases he
      · simp only [stepC] at he ⊢
        split at he
        · rename_i u H2 l h2
          obtain ⟨n, hn⟩ := callL_iff.1 h2
          exact ⟨n, by rw [hn]; exact he⟩
        · cases he
    | _ => exact ⟨0, he⟩
  · rintro ⟨n, hn⟩; exact stepC_mono (callN_le_L n) hn

theorem execOps_lim : ∀ (ops : List AOper) (st : St) (wr : List Bool) (r : St × List Bool), execOps (callL tab) ops st wr = some r → ∃ n, execOps (callN tab n) ops st wr = some r
  | [], st, wr, r, he => ⟨0, he⟩
  | o :: ops, st, wr, r, he => by
    simp only [execOps] at he ⊢
    split at he
    · rename_i hw
      split at he
      · rename_i v H' low' h1
        obtain ⟨n, hn⟩ := stepC_lim.1 h1
        obtain ⟨m, hm⟩ := execOps_lim ops _ _ _ he
        refine ⟨max n m, ?_⟩
        rw [stepC_mono (callN_mono tab (Nat.le_max_left n m)) hn]
        exact execOps_mono (callN_mono tab (Nat.le_max_right n m)) ops _ _ _ hm
      · cases he
    · rename_i hw
      obtain ⟨m, hm⟩ := execOps_lim ops _ _ _ he
      exact ⟨m, hm⟩
    · cases he

/-! ### the equations -/

theorem execL_skip (st : St) : execL tab .skip st = some (.normal, st) := execL_iff.2 ⟨0, rfl⟩
theorem execL_exit (id : Nat) (st : St) : execL tab (.exit id) st = some (.exit id, st) := execL_iff.2 ⟨0, rfl⟩
theorem execL_ret (st : St) : execL tab .ret st = some (.ret, st) := execL_iff.2 ⟨0, rfl⟩

theorem execL_region (ops : List AOper) (bef : Option (List Nat)) (st : St) : execL tab (.region ops bef) st = match execOps (callL tab) ops { st with tE := [] } [] with
    | some (st', wr) => match bef with
      | none => some (.normal, { st' with tE := [] })
      | some b => if inOrder b ops wr then some (.normal, { st' with tE := [] }) else none
    | none => none := by
  refine opt_ext fun r => ?_
  rw [execL_iff]
  constructor
  · rintro ⟨n, hn⟩
    simp only [exec] at hn
    split at hn
    · rename_i st1 wr h1
      rw [execOps_mono (callN_le_L n) _ _ _ _ h1]
      exact hn
    · cases hn
  · intro h
    split at h
    · rename_i st1 wr h1
      obtain ⟨n, hn⟩ := execOps_lim _ _ _ _ h1
      exact ⟨n, by simp only [exec]; rw [hn]; exact h⟩
    · cases h

theorem execL_seq (a b : ACode) (st : St) : execL tab (.seq a b) st = match execL tab a st with
    | some (.normal, st') => execL tab b st'
    | r => r := by
  refine opt_ext fun r => ?_
  rw [execL_iff]
  constructor
  · rintro ⟨n, hn⟩
    simp only [exec] at hn
    split at hn
    · rename_i st1 h1
      rw [execL_iff.2 ⟨n, h1⟩]
      exact execL_iff.2 ⟨n, hn⟩
    · rename_i hne
      rw [execL_iff.2 ⟨n, hn⟩]
      split
      · rename_i st1 e; cases e; exact absurd hn (hne _)
      · rfl
  · intro h
    split at h
    · rename_i st1 h1
      obtain ⟨n, hn⟩ := execL_iff.1 h1
      obtain ⟨m, hm⟩ := execL_iff.1 h
      exact ⟨max n m, by simp only [exec]; rw [exec_up (Nat.le_max_left n m) hn]; exact exec_up (Nat.le_max_right n m) hm⟩
    · rename_i hne
      obtain ⟨n, hn⟩ := execL_iff.1 h
      refine ⟨n, ?_⟩
      simp only [exec]
      rw [hn]
      split
      · rename_i st1 e; cases e; exact absurd h (hne _)
      · rfl

theorem execL_cond (c : Opd) (t e : ACode) (st : St) : execL tab (.cond c t e) st = match c.ev st.tE st.vE with
    | .bool true => execL tab t st
    | .bool false => execL tab e st
    | _ => none := by
  refine opt_ext fun r => ?_
  rw [execL_iff]
  constructor
  · rintro ⟨n, hn⟩
    simp only [exec] at hn
    split at hn
    · rename_i hc
      try simp only [hc]
      exact execL_iff.2 ⟨n, hn⟩
    · rename_i hc
      try simp only [hc]
      exact execL_iff.2 ⟨n, hn⟩
    · cases hn
  · intro h
    split at h
    · rename_i hc
      obtain ⟨n, hn⟩ := execL_iff.1 h
      exact ⟨n, by simp only [exec, hc]; exact hn⟩
    · rename_i hc
      obtain ⟨n, hn⟩ := execL_iff.1 h
      exact ⟨n, by simp only [exec, hc]; exact hn⟩
    · cases h

theorem execL_block (id : Nat) (c : ACode) (st : St) : execL tab (.block id c) st = match execL tab c st with
    | some (.exit id', st') => if id' = id then some (.normal, st') else some (.exit id', st')
    | r => r := by
  refine opt_ext fun r => ?_
  rw [execL_iff]
  constructor
  · rintro ⟨n, hn⟩
    simp only [exec] at hn
    split at hn
    · rename_i h1
      rw [execL_iff.2 ⟨n, h1⟩]
      exact hn
    · rename_i hne
      rw [execL_iff.2 ⟨n, hn⟩]
      split
      · rename_i e; cases e; exact absurd hn (hne _ _)
      · rfl
  · intro h
    split at h
    · rename_i h1
      obtain ⟨n, hn⟩ := execL_iff.1 h1
      exact ⟨n, by simp only [exec]; rw [hn]; exact h⟩
    · rename_i hne
      obtain ⟨n, hn⟩ := execL_iff.1 h
      refine ⟨n, ?_⟩
      simp only [exec]
      rw [hn]
      split
      · rename_i e; cases e; exact absurd h (hne _ _)
      · rfl

theorem iter_le {f : St → Option (X × St)} {n m : Nat} {st : St} {r : X × St} (hle : n ≤ m) (h : iter f n st = some r) : iter f m st = some r := iter_mono (fun _ _ h => h) n m st r hle h

theorem execL_loop (c : ACode) (st : St) : execL tab (.loop c) st = match execL tab c st with
    | some (.normal, st') => execL tab (.loop c) st'
    | r => r := by
  refine opt_ext fun r => ?_
  rw [execL_iff]
  constructor
  · rintro ⟨n, hn⟩
    simp only [exec] at hn
    cases n with
    | zero => cases hn
    | succ n =>
      simp only [iter] at hn
      split at hn
      · rename_i st1 h1
        rw [execL_iff.2 ⟨n + 1, h1⟩]
        exact execL_iff.2 ⟨n + 1, by simp only [exec]; exact iter_le (Nat.le_succ n) hn⟩
      · rename_i hne
        rw [execL_iff.2 ⟨n + 1, hn⟩]
        split
        · rename_i e; cases e; exact absurd hn (hne _)
        · rfl
  · intro h
    split at h
    · rename_i st1 h1
      obtain ⟨n, hn⟩ := execL_iff.1 h1
      obtain ⟨m, hm⟩ := execL_iff.1 h
      simp only [exec] at hm
      refine ⟨max n m + 1, ?_⟩
      simp only [exec, iter]
      rw [exec_up (show n ≤ max n m + 1 by omega) hn]
      exact iter_mono (fun st r hr => exec_up (show m ≤ max n m + 1 by omega) hr) m (max n m) _ _ (Nat.le_max_right n m) hm
    · rename_i hne
      obtain ⟨n, hn⟩ := execL_iff.1 h
      refine ⟨n + 1, ?_⟩
      simp only [exec, iter]
      rw [exec_up (Nat.le_succ n) hn]
      split
      · rename_i e; cases e; exact absurd h (hne _)
      · rfl

theorem execL_range (f : Opd) (ps : List Nat) (a b : ACode) (st : St) : execL tab (.rangeFunc f ps a b) st =
    if (roOk st.H st.ro && isFn (f.ev st.tE st.vE)) = false then none else
    match callL tab (f.ev st.tE st.vE) [.yield st.H.length] (st.H ++ [.loop .ready .normal st.vE ps a b]) with
    | some (_, H', low') => match H'[st.H.length]? with
      | some (.loop ls pend _ _ _ _) => if ls = .busy then none else some (pend, { st with H := H'.set st.H.length .gone, low := min st.low low' })
      | _ => none
    | none => none := by
  refine opt_ext fun r => ?_
  rw [execL_iff]
  constructor
  · rintro ⟨n, hn⟩
    simp only [exec] at hn
    split at hn
    · cases hn
    · rename_i hc
      rw [if_neg hc]
      split at hn
      · rename_i h1
        rw [callN_le_L n _ _ _ _ h1]
        exact hn
      · cases hn
  · intro h
    split at h
    · cases h
    · rename_i hc
      split at h
      · rename_i h1
        obtain ⟨n, hn⟩ := callL_iff.1 h1
        exact ⟨n, by simp only [exec]; rw [if_neg hc, hn]; exact h⟩
      · cases h

theorem callL_fn (i : Nat) (first caps args : List V) (H : Heap) : callL tab (.fn i first caps) args H = match tab i with
    | some (.code fn) => callBody (execL tab) fn (first ++ args ++ caps) H
    | some (.ext spec) => if isPs (first ++ args ++ caps) then (spec (first ++ args ++ caps)).map fun v => (v, H, H.length) else none
    | none => none := by
  refine opt_ext fun r => ?_
  rw [callL_iff]
  constructor
  · rintro ⟨n, hn⟩
    cases n with
    | zero => simp [callN] at hn
    | succ n =>
      simp only [callN, callV] at hn
      split at hn
      · rename_i h1; try simp only [h1]
        exact callBody_mono (ex' := execL tab) (fun c st r h => execL_iff.2 ⟨n, h⟩) hn
      · rename_i h1; try simp only [h1]
        exact hn
      · cases hn
  · intro h
    cases ht : tab i with
    | none => rw [ht] at h; cases h
    | some F =>
      rw [ht] at h
      cases F with
      | ext spec => exact ⟨1, by simp only [callN, callV, ht]; exact h⟩
      | code fn =>
        simp only at h
        unfold callBody at h
        split at h
        · rename_i hl
          split at h
          · rename_i st h1
            obtain ⟨n, hn⟩ := execL_iff.1 h1
            exact ⟨n + 1, by simp only [callN, callV, ht, callBody]; rw [if_pos hl, hn]; exact h⟩
          · rename_i st h1
            obtain ⟨n, hn⟩ := execL_iff.1 h1
            exact ⟨n + 1, by simp only [callN, callV, ht, callBody]; rw [if_pos hl, hn]; exact h⟩
          · cases h
        · cases h

theorem callL_yield (l : Nat) (args : List V) (H : Heap) : callL tab (.yield l) args H = yieldBody (execL tab) l args H := by
  refine opt_ext fun r => ?_
  rw [callL_iff]
  constructor
  · rintro ⟨n, hn⟩
    cases n with
    | zero => simp [callN] at hn
    | succ n => exact yieldBody_mono (fun c st r h => execL_iff.2 ⟨n, h⟩) hn
  · intro h
    unfold yieldBody at h
    split at h
    · rename_i hl
      split at h
      · rename_i hlen
        split at h
        · rename_i st h1
          split at h
          · rename_i h2
            split at h
            · rename_i h3
              obtain ⟨n, hn⟩ := execL_iff.1 h1
              obtain ⟨m, hm⟩ := execL_iff.1 h3
              refine ⟨max n m + 1, ?_⟩
              simp only [callN, callV, yieldBody, hl, hlen, if_true]
              simp only [exec_up (Nat.le_max_left n m) hn, h2, exec_up (Nat.le_max_right n m) hm]
              exact h
            · cases h
          · cases h
        · cases h
      · cases h
    · cases h

end Go.Abs
/- For reckoning with the executor by hand. Nothing here speaks of the real memory. -/
namespace Go.Abs
open Go

/-- A slice that is never written, of elements of es cells. -/
def slE (es : Nat) : V → Bool
  | .nil0 | .emp => true
  | .list es' _ => es' == es
  | _ => false

def el : V → List V
  | .list _ ds => ds
  | _ => []

section
variable {call : CallT} {ev : Opd → V} {H : Heap} {low : Nat}

theorem S_mv (x : Opd) : stepC call ev H low (.mv x) = some (ev x, H, low) := rfl
theorem S_pick (c a b : Opd) : stepC call ev H low (.pick c a b) = (boolOf (ev c)).map fun t => (if t then ev a else ev b, H, low) := rfl
theorem S_alloc (z : List V) : stepC call ev H low (.alloc z) = some (.ptr H.length 0, H ++ [.cells z], low) := rfl
theorem S_box (x : Opd) : stepC call ev H low (.box x) = if cellsOk (cellsV (ev x)) then some (.ptr H.length 0, H ++ [.cells (cellsV (ev x))], low) else none := rfl
theorem S_load (sh : Option Nat) (x : Opd) : stepC call ev H low (.load sh x) = (loadA H sh (ev x)).map fun v => (v, H, low) := rfl
theorem S_store (n : Nat) (a x : Opd) : stepC call ev H low (.store n a x) = (storeA H n (ev a) (ev x)).map fun (H', l) => (.undef, H', min low l) := rfl
theorem S_bin (op : BinOp) (x y : Opd) : stepC call ev H low (.bin op x y) = (binA op (ev x) (ev y)).map fun v => (v, H, low) := rfl
theorem S_un (op : UnOp) (x : Opd) : stepC call ev H low (.un op x) = (unA op (ev x)).map fun v => (v, H, low) := rfl
theorem S_nilEq (k : Nat) (neg : Bool) (x y : Opd) : stepC call ev H low (.nilEq k neg x y) = (nilEqA k (ev x) (ev y)).map fun e => (.bool (if neg then !e else e), H, low) := rfl
theorem S_mkFn (i : Nat) (a b : List Opd) : stepC call ev H low (.mkFn i a b) = some (.fn i (a.map ev) (b.map ev), H, low) := rfl
theorem S_mkMap : stepC call ev H low .mkMap = some (.map H.length, H ++ [.map []], low) := rfl
theorem S_extract (x : Opd) (i : Nat) : stepC call ev H low (.extract x i) = match ev x with
    | .tup vs => (vs[i]?).map fun v => (v, H, low)
    | _ => none := rfl
theorem S_field (off : Nat) (sh : Option Nat) (x : Opd) : stepC call ev H low (.field off sh x) = match ev x with
    | .agg vs => (readCells vs off sh).map fun v => (v, H, low)
    | _ => none := rfl
theorem S_fieldAddr (off : Nat) (x : Opd) : stepC call ev H low (.fieldAddr off x) = match ev x with
    | .ptr l o => some (.ptr l (o + off), H, low)
    | .eptr l es i f tag => some (.eptr l es i (f + off) tag, H, low)
    | .pin vs f => some (.pin vs (f + off), H, low)
    | _ => none := rfl
theorem S_call0 (f : Opd) (args : List Opd) : stepC call ev H low (.call false f args) = match freezeVs H low (args.map ev) with
    | some (vs, H', low') => match call (ev f) vs H' with
      | some (v, H'', l) => if flat v = true ∧ H'.length ≤ l then some (v, H, low) else some (v, H'', min low' l)
      | none => none
    | none => none := rfl
theorem S_call1 (f : Opd) (args : List Opd) : stepC call ev H low (.call true f args) = match call (ev f) (args.map ev) H with
    | some (v, H', l) => some (v, H', min low l)
    | none => none := rfl
theorem S_append (es bytes : Nat) (a b : Opd) : stepC call ev H low (.append es bytes a b) = step ev H low (.append es bytes a b) := rfl
theorem S_lit (es : Nat) (z : List V) (n : Nat) (ps : List (Nat × Opd)) (im : Bool) : stepC call ev H low (.lit es z n ps im) = step ev H low (.lit es z n ps im) := rfl
theorem S_mkSlice (es : Nat) (z : List V) (b : Nat) (l c : Opd) : stepC call ev H low (.mkSlice es z b l c) = step ev H low (.mkSlice es z b l c) := rfl
theorem S_sliceL (es : Nat) (x : Opd) (lo hi mx : Option Opd) : stepC call ev H low (.sliceL es x lo hi mx) = step ev H low (.sliceL es x lo hi mx) := rfl
theorem S_lookup (k : Nat) (z : V) (x i : Opd) (ok : Bool) : stepC call ev H low (.lookup k z x i ok) = step ev H low (.lookup k z x i ok) := rfl
theorem S_mapUpd (k : Nat) (m x v : Opd) : stepC call ev H low (.mapUpd k m x v) = step ev H low (.mapUpd k m x v) := rfl
theorem S_minmax (m : Bool) (x y : Opd) : stepC call ev H low (.minmax m x y) = step ev H low (.minmax m x y) := rfl

/-- len, of a slice that is never written. -/
theorem S_len {x : Opd} (es : Nat) (h : slE es (ev x) = true) : stepC call ev H low (.len 1 x) = some (.int .i64 (el (ev x)).length, H, low) := by
  show step ev H low (.len 1 x) = _
  cases hx : ev x <;> simp_all [slE, step, el]
/-- len, of a row. -/
theorem S_len_row {x : Opd} {l es off len tag : Nat} (hx : ev x = .sref l es off len tag) {ds : List V} {fz : Bool} (hl : H[l]? = some (.row es ds fz)) (ht : ds.length = tag) : stepC call ev H low (.len 1 x) = some (.int .i64 len, H, low) := by
  show step ev H low (.len 1 x) = _
  simp [step, hx, hl, ht]
theorem S_index {es : Nat} {x i : Opd} (h : slE es (ev x) = true) : stepC call ev H low (.indexAddr es x i) = match natOf (ev i) with
    | some k => ((el (ev x))[k]?).map fun d => (.pin (cellsV d) 0, H, low)
    | none => none := by
  show step ev H low (.indexAddr es x i) = _
  cases hx : ev x <;> simp_all [slE, step, el] <;> cases natOf (ev i) <;> rfl
theorem S_index_row {x i : Opd} {l es len tag : Nat} (hx : ev x = .sref l es 0 len tag) {ds : List V} {fz : Bool} (hl : H[l]? = some (.row es ds fz)) (ht : ds.length = tag) {k : Nat} (hk : natOf (ev i) = some k) (hlt : k < len) (hle : len ≤ tag) :
    stepC call ev H low (.indexAddr es x i) = some (.eptr l es k 0 tag, H, low) := by
  show step ev H low (.indexAddr es x i) = _
  simp [step, hx, hl, ht, hk, hlt, hle]
end

@[simp] theorem natOf_cast (k : IntKind) (n : Nat) : natOf (.int k (n : Int)) = some n := by simp [natOf]
theorem natOf_nonneg (k : IntKind) {n : Int} (h : 0 ≤ n) : natOf (.int k n) = some n.toNat := by simp [natOf, h]

@[simp] theorem movedH_same (H : Heap) : movedH H H H.length = false := by simp [movedH]

theorem wrap_small {n : Int} (h1 : -9223372036854775808 ≤ n) (h2 : n < 9223372036854775808) : IntKind.i64.wrap n = n := by
  have e : (2 ^ IntKind.i64.bits : Int) = 18446744073709551616 := rfl
  have e' : (2 ^ (IntKind.i64.bits - 1) : Int) = 9223372036854775808 := rfl
  have s : IntKind.i64.signed = true := rfl
  simp only [IntKind.wrap, e, e', s, Bool.true_and, decide_eq_true_eq]
  split <;> omega

theorem lookE_setE (e : Env) (t t' : Nat) (v : V) : lookupE (setE e t v) t' = if t' = t then v else lookupE e t' := by
  induction e with
  | nil =>
    by_cases h : t' = t
    · subst h; simp [setE, lookupE]
    · simp [setE, lookupE, h, Ne.symm h]
  | cons p r ih =>
    obtain ⟨k, u⟩ := p
    simp only [setE]
    split
    · rename_i hk
      subst hk
      by_cases h : t' = k
      · subst h; simp [lookupE]
      · simp [lookupE, h, Ne.symm h]
    · rename_i hk
      simp only [lookupE]
      split
      · rename_i h
        rw [if_neg (by omega)]
      · exact ih

/-- The shape of 'for i := range n' and 'for i, x := range xs'. -/
def rangeBody (b n i t blk ex : Nat) (body : ACode) : ACode :=
  .seq (.region [⟨some (b, true), .bin .lss (.var i) (.var n), none⟩] none) (.seq (.cond (.var b) (.skip) (.exit ex)) (.seq (.block blk body)
    (.region [⟨some (t, false), .bin .add (.var i) (.const (.int .i64 1)), none⟩, ⟨some (i, true), .mv (.tmp t), none⟩] none)))

theorem range_loop {tab : Nat → Option Fun} {b n i t blk ex : Nat} {body : ACode} {I : Nat → St → Prop} {Q : X → St → Prop} {N : Nat} (hN : N < 4611686018427387904) (hbi : b ≠ i) (hex : ex ≠ blk)
    (hI : ∀ k st, I k st → lookupE st.vE i = .int .i64 k ∧ lookupE st.vE n = .int .i64 N ∧ st.low ≤ st.H.length)
    (round : ∀ k st, k < N → I k st → ∃ x st2, execL tab body { st with tE := [], vE := setE st.vE b (.bool true) } = some (x, st2) ∧
      if x = .normal ∨ x = .exit blk then lookupE st2.vE i = .int .i64 k ∧ st2.low ≤ st2.H.length ∧ I (k + 1) { st2 with tE := [], vE := setE st2.vE i (.int .i64 ((k + 1 : Nat) : Int)) } else Q x st2)
    (done : ∀ st, I N st → Q (.exit ex) { st with tE := [], vE := setE st.vE b (.bool false) }) :
    ∀ j k st, k + j = N → I k st → ∃ x st', execL tab (.loop (rangeBody b n i t blk ex body)) st = some (x, st') ∧ Q x st' := by
  have hlt : ∀ k st, I k st → execL tab (.region [⟨some (b, true), .bin .lss (.var i) (.var n), none⟩] none) st = some (.normal, { st with tE := [], vE := setE st.vE b (.bool (decide (k < N))) }) := fun k st h => by
    obtain ⟨h1, h2, h3⟩ := hI k st h
    rw [execL_region]
    simp [execOps, wantedA, S_bin, Opd.ev, h1, h2, binA, St.put, Nat.min_eq_left h3]
  intro j
  induction j with
  | zero =>
    intro k st hk h
    have : k = N := by omega
    subst this
    refine ⟨.exit ex, _, ?_, done st h⟩
    rw [execL_loop]
    simp only [rangeBody]
    rw [execL_seq, hlt k st h]
    simp only []
    rw [execL_seq, execL_cond]
    simp [Opd.ev, lookE_setE, execL_exit]
  | succ j ih =>
    intro k st hk h
    obtain ⟨x, st2, h1, h2⟩ := round k st (by omega) h
    have hpre : ∀ r, execL tab (.seq (.block blk body) (.region [⟨some (t, false), .bin .add (.var i) (.const (.int .i64 1)), none⟩, ⟨some (i, true), .mv (.tmp t), none⟩] none)) { st with tE := [], vE := setE st.vE b (.bool true) } = r →
        execL tab (rangeBody b n i t blk ex body) st = r := fun r hr => by
      simp only [rangeBody]
      rw [execL_seq, hlt k st h]
      simp only []
      rw [execL_seq, execL_cond]
      have hd : decide (k < N) = true := by simp; omega
      simp [Opd.ev, lookE_setE, execL_skip, hd, hr]
    by_cases hx : x = .normal ∨ x = .exit blk
    · rw [if_pos hx] at h2
      obtain ⟨h2, h4, h3⟩ := h2
      have hblk : execL tab (.block blk body) { st with tE := [], vE := setE st.vE b (.bool true) } = some (.normal, st2) := by
        rw [execL_block, h1]
        rcases hx with rfl | rfl
        · rfl
        · simp
      have hinc : execL tab (.region [⟨some (t, false), .bin .add (.var i) (.const (.int .i64 1)), none⟩, ⟨some (i, true), .mv (.tmp t), none⟩] none) st2 = some (.normal, { st2 with tE := [], vE := setE st2.vE i (.int .i64 ((k + 1 : Nat) : Int)) }) := by
        have hw : IntKind.i64.wrap ((k : Int) + 1) = ((k + 1 : Nat) : Int) := by rw [wrap_small] <;> omega
        rw [execL_region]
        simp [execOps, wantedA, S_bin, S_mv, Opd.ev, h2, binA, hw, St.put, lookupE, Nat.min_eq_left h4]
      have hround := hpre _ (by rw [execL_seq, hblk])
      simp only [hinc] at hround
      obtain ⟨x', st', h5, h6⟩ := ih (k + 1) _ (by omega) h3
      exact ⟨x', st', by rw [execL_loop, hround]; exact h5, h6⟩
    · rw [if_neg hx] at h2
      have hblk : execL tab (.block blk body) { st with tE := [], vE := setE st.vE b (.bool true) } = some (x, st2) := by
        rw [execL_block, h1]
        cases x with
        | normal => exact absurd (.inl rfl) hx
        | exit id =>
          have : id ≠ blk := fun e => hx (.inr (by rw [e]))
          simp [this]
        | ret => rfl
      have hround := hpre (some (x, st2)) (by
        rw [execL_seq, hblk]
        cases x with
        | normal => exact absurd (.inl rfl) hx
        | exit id => rfl
        | ret => rfl)
      refine ⟨x, st2, ?_, h2⟩
      rw [execL_loop, hround]
      cases x with
      | normal => exact absurd (.inl rfl) hx
      | exit id => rfl
      | ret => rfl

end Go.Abs
