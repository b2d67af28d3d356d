/- Calls: a function's body, a round of a loop; every call that the executor makes goes as it says. -/
import Derived.Test.YteiajndkjnlmiaaGreatDoorXeCode2
set_option linter.unusedVariables false
set_option linter.unusedSimpArgs false
namespace Go.Abs
open Go
variable {C : Ctx} {fid : Nat → Nat} {w w' : World} {G G' : Gh} {H H' : Heap} {call : CallT} {n : Nat}

/-- A function of the library, met by its contract. -/
def ExtOk (C : Ctx) (fid : Nat → Nat) (i : Nat) (spec : List V → Option V) : Prop :=
  ∀ {G : Gh} {H : Heap} {w : World} {args : List V} {v : V} {xs : List Value}, RelH C fid G H w → PRels w G.I args xs → spec args = some v → NextRuns C.P (Post C fid G H w v H H.length) ((callFunc (fid i) ⟨xs⟩).run C.P w)

/-- The table of the functions is the program's. -/
structure TabOk (C : Ctx) (fid : Nat → Nat) (tab : Nat → Option Fun) : Prop where
  code : ∀ i f, tab i = some (.code f) → ∃ fn, C.P.funcs[fid i]? = some fn ∧ C.func fn f.fresh = some f
  ext : ∀ i spec, tab i = some (.ext spec) → ExtOk C fid i spec

/-! ### a round -/

theorem fold_env {vars : List Nat} : ∀ (ps : List Nat) (vs : List V) (xs : List Value) (env : Env) (tmps : Array Value), VRels fid G w vs xs → (∀ t ∈ ps, t < tmps.size) →
    (∀ t, t ∈ vars → VRel fid G w (lookupE env t) (tmps.getD t undef)) →
    ((ps.zip xs).foldl (fun (tm : Array Value) (p : Nat × Value) => tm.setIfInBounds p.1 p.2) tmps).size = tmps.size ∧
      ∀ t, t ∈ vars → VRel fid G w (lookupE ((ps.zip vs).foldl (fun e (p : Nat × V) => setE e p.1 p.2) env) t) (((ps.zip xs).foldl (fun (tm : Array Value) (p : Nat × Value) => tm.setIfInBounds p.1 p.2) tmps).getD t undef)
  | [], vs, xs, env, tmps, _, _, h => ⟨rfl, by simpa using h⟩
  | p :: ps, _, _, env, tmps, .nil, _, h => ⟨rfl, by simpa using h⟩
  | p :: ps, _, _, env, tmps, .cons v x vs xs hv hs, hlt, h => by
    have h1 := fold_env ps vs xs (setE env p v) (tmps.setIfInBounds p x) hs (fun t ht => by rw [Array.size_setIfInBounds]; exact hlt t (by simp [ht])) fun t ht => by
      rw [lookupE_setE]
      have := getD_put { tmps := tmps, defers := [] } p x t (hlt p (by simp))
      simp only [Act.put] at this
      rw [this]
      by_cases e : t = p
      · rw [if_pos e, if_pos e]; exact hv
      · rw [if_neg e, if_neg e]; exact h t ht
    simp only [List.zip_cons_cons, List.foldl_cons]
    rw [Array.size_setIfInBounds] at h1
    exact h1

theorem MarksOk.nil (G : Gh) (w : World) (base : Nat) : MarksOk G w base [] := ⟨[], rfl, List.nodup_nil, fun r hr => by cases hr⟩

theorem yield_sound (hmix : C.P.follows .mixedOrders = true) (hC : CtxOk C fid) (hcall : CallOk C fid call) {l : Nat} {args : List V} {v : V} {low' : Nat} {xs : List Value} {h : Home}
    (he : yieldBody (exec call n) l args H = some (v, H', low')) (hR : RelH C fid G H w) (hb : G.β l = some h) (hv : VRels fid G w args xs) :
    NextRuns C.P (Post C fid G H w v H' low') ((Instr.yield h.b ⟨xs⟩).run C.P w) := by
  unfold yieldBody at he
  split at he
  · rename_i p0 env params aas abd hl0
    obtain ⟨ht, hfz, L, vars, hL, hL1, hL2, hL3, hL4, hL5, hL6, hL7⟩ := loop_at hR hb hl0
    split at he
    · rename_i hlen
      have hys := run_yield (P := C.P) (args := ⟨xs⟩) hL (by rw [← Array.length_toList, ← Array.length_toList, hL3, VRels.length hv, hlen])
      rw [hys]
      have hfold : (r : Array Value) → ((L.params.zip (⟨xs⟩ : Array Value)).foldl (fun tmps (t, a) => tmps.setIfInBounds t a) r) = (params.zip xs).foldl (fun (tm : Array Value) (p : Nat × Value) => tm.setIfInBounds p.1 p.2) r := fun r => by
        rw [← Array.foldl_toList, Array.toList_zip, hL3]
      rw [hfold]
      obtain ⟨hsz, henv⟩ := fold_env (vars := vars) params args xs env L.tmps hv (fun t ht => (hL4 t ht).2) hL7
      -- the assignments
      split at he
      · rename_i st1 he1
        have f1 := exec_fr hcall.fr n _ _ _ _ (Nat.le_refl _) he1
        split at he
        · rename_i p1 env1 ps1 as1 bd1 hl1
          split at he
          · rename_i x st3 he3
            split at he
            · rename_i ls3 p3 env3 ps3 as3 bd3 hl3
              cases he
              refine roundIn_of_wpIn trivial ?_
              have hR0 : RelSt C fid vars L.tmps.size G { tE := [], vE := (params.zip args).foldl (fun e (t, v) => setE e t v) env, H, low := H.length, ro := some l }
                  { tmps := (params.zip xs).foldl (fun (tm : Array Value) (p : Nat × Value) => tm.setIfInBounds p.1 p.2) L.tmps, defers := [] } w :=
                ⟨hR, fun t => by
                  unfold lookS
                  split
                  · rename_i hin; exact henv t (List.contains_iff_mem.1 hin)
                  · exact .undef _, hsz, Nat.le_refl _⟩
              refine code_ok (n := n) hmix hC hcall L.assign _ vars _ hL5 _ _ _ he1 G _ w (some h.b) 0 _ hR0 ⟨h, hb, ht, rfl⟩ (.nil _ _ _) (Nat.zero_le _) ?_
              intro G1 a1 w1 F1
              -- the round begins
              have hE1 := F1.ext 0 (Nat.zero_le _)
              obtain ⟨h1, e1, -, z1, m1, -⟩ := hE1.homes l h hb
              have hb1 : h1.b = h.b := (m1 ((z1 ht).trans ht.symm)).1
              obtain ⟨t1, fz1, L1, vars1, q1, q2, q3, q4, q5, q6, q7, q8⟩ := loop_at F1.rel.rel e1 hl1
              have hT1 := turn F1.rel.rel e1 fz1 (.loop { L1 with state := .busy }) (.loop .busy p1 env1 ps1 as1 bd1) fun k1 k2 k3 =>
                ⟨t1, fz1, _, vars1, k2, rfl, q3, q4, q5, q6, q7, fun t ht => (q8 t ht).mono (.refl _) fun b hb => ⟨hb, k3 b hb⟩⟩
              have hbeg := run_beginRound (P := C.P) q1 q2
              rw [hb1] at hT1 hbeg
              refine ⟨_, hbeg, ?_⟩
              -- its body
              have hlow1 : min st1.low l ≤ st1.H.length := by have := F1.rel.low; omega
              have hR1 : RelSt C fid vars L.tmps.size G1 { st1 with H := st1.H.set l (.loop .busy p1 env1 ps1 as1 bd1), low := min st1.low l } a1 (w1.putObj h.b (.loop { L1 with state := .busy })) :=
                ⟨hT1.1, fun t => (F1.rel.env t).ext F1.rel.rel hT1.2, F1.rel.size, by simpa using hlow1⟩
              have hro1 : st1.ro = some l := f1.2
              refine code_ok (n := n) hmix hC hcall L.body _ vars _ hL6 _ _ _ he3 G1 a1 _ (some h.b) 0 _ hR1 (by simp only [hro1]; exact ⟨h1, e1, t1, hb1⟩) (F1.marks.ext hT1.2) (Nat.zero_le _) ?_
              intro G3 a3 w3 F3
              have f3 := exec_fr hcall.fr n _ _ _ _ (by simpa using hlow1) he3
              have hE3 := F3.ext 0 (Nat.zero_le _)
              obtain ⟨h3, e3, -, z3, m3, -⟩ := hE3.homes l h1 e1
              have hb3 : h3.b = h.b := (m3 ((z3 t1).trans t1.symm)).1.trans hb1
              obtain ⟨t3, fz3, L3, vars3, r1, r2, r3, r4, r5, r6, r7, r8⟩ := loop_at F3.rel.rel e3 hl3
              have hlenf : H.length ≤ st1.H.length := f1.1.len
              have hlen3 : st1.H.length ≤ st3.H.length := by have := f3.1.len; simpa using this
              have hlow3 : st3.low ≤ st1.low ∧ st3.low ≤ l := by have := f3.1.low; simp only at this; omega
              have hExt : ∀ (jump : Option Code) (ls : LoopState), RelH C fid G3 (st3.H.set l (.loop ls x env3 ps3 as3 bd3)) (w3.putObj h.b (.loop { L3 with state := ls, pending := jump })) ∧
                  Ext G3 w3 G3 (w3.putObj h.b (.loop { L3 with state := ls, pending := jump })) l st3.H.length →
                  ∀ m, m ≤ min st3.low l → Ext G w G3 (w3.putObj h.b (.loop { L3 with state := ls, pending := jump })) m H.length := fun jump ls hT m hm =>
                ((F1.ext m (by omega)).trans ((hT1.2.le (m' := m) (by omega) hlenf))).trans (((F3.ext m (by omega)).le (Nat.le_refl _) (by simpa using hlenf)).trans (hT.2.le (by omega) (Nat.le_trans hlenf hlen3)))
              have hT : ∀ (jump : Option Code) (ls : LoopState), pendRel x jump → RelH C fid G3 (st3.H.set l (.loop ls x env3 ps3 as3 bd3)) (w3.putObj h.b (.loop { L3 with state := ls, pending := jump })) ∧
                  Ext G3 w3 G3 (w3.putObj h.b (.loop { L3 with state := ls, pending := jump })) l st3.H.length := fun jump ls hp => by
                have := turn F3.rel.rel e3 fz3 (.loop { L3 with state := ls, pending := jump }) (.loop ls x env3 ps3 as3 bd3) fun k1 k2 k3 =>
                  ⟨t3, fz3, _, vars3, k2, rfl, hp, r4, r5, r6, r7, fun t ht => (r8 t ht).mono (.refl _) fun b hb => ⟨hb, k3 b hb⟩⟩
                rw [hb3] at this; exact this
              rw [hb3] at r1
              cases x with
              | normal =>
                have T := hT none .ready trivial
                exact ⟨_, _, run_endRound none r1, _, rfl, G3, T.1, hExt none .ready T, .p _ _ (.bool true)⟩
              | exit id =>
                have T := hT (some (.exit id)) .done rfl
                exact ⟨_, _, run_endRound (some (.exit id)) r1, _, rfl, G3, T.1, hExt _ .done T, .p _ _ (.bool false)⟩
              | ret =>
                have T := hT (some .ret) .done trivial
                exact ⟨_, _, run_endRound (some .ret) r1, _, rfl, G3, T.1, hExt _ .done T, .p _ _ (.bool false)⟩
            · cases he
          · cases he
        · cases he
      · cases he
    · cases he
  · cases he

end Go.Abs
