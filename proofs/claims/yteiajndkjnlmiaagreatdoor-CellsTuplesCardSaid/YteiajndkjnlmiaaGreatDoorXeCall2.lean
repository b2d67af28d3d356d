/- Calls, whole. -/
import Derived.Test.YteiajndkjnlmiaaGreatDoorXeCall
set_option linter.unusedVariables false
set_option linter.unusedSimpArgs false
namespace Go.Abs
open Go
variable {C : Ctx} {fid : Nat → Nat} {w w' : World} {G G' : Gh} {H H' : Heap} {call : CallT} {n : Nat}

/-! ### what a call leaves -/

theorem ORel.tags {h h' : Home} {o : AObj} (a : ORel C fid G w h o) (b : ORel C fid G' w' h' o) : h.tag = h'.tag ∧ h.fz = h'.fz := by
  cases o with
  | cells vs => exact ⟨a.1.trans b.1.symm, a.2.1.trans b.2.1.symm⟩
  | row es ds fz => exact ⟨a.1.trans b.1.symm, a.2.2.1.trans b.2.2.1.symm⟩
  | map ents => exact ⟨a.1.trans b.1.symm, a.2.1.trans b.2.1.symm⟩
  | loop => exact ⟨a.1.trans b.1.symm, a.2.1.trans b.2.1.symm⟩
  | gone => exact ⟨a.1.trans b.1.symm, a.2.trans b.2.symm⟩

/-- Where no old object was written, the old ones stand where they stood. -/
theorem homes_same (hR : RelH C fid G H w) (hR' : RelH C fid G' H' w') (hle : HomesLe G.β G'.β) (hs : ∀ l, l < H.length → H'[l]? = H[l]?) {l : Nat} {h : Home} (e : G.β l = some h) : G'.β l = some h := by
  obtain ⟨h', e', -, -, m, -⟩ := hle l h e
  obtain ⟨o, ho, r⟩ := hR.obj l h e
  obtain ⟨o', ho', r'⟩ := hR'.obj l h' e'
  rw [hs l (hR.lt e), ho] at ho'
  cases ho'
  obtain ⟨t, f⟩ := r.tags r'
  obtain ⟨mb, mc⟩ := m t.symm
  rw [e']
  congr 1
  cases h; cases h'; simp_all

/-- Back to the old objects, the lists that are never written again kept. -/
theorem forget (hR : RelH C fid G H w) (hR' : RelH C fid G' H' w') {m n : Nat} (hE : Ext G w G' w' m n) (hm : H.length ≤ m) (hn : H.length ≤ n) (hs : ∀ l, l < H.length → H'[l]? = H[l]?) :
    RelH C fid ⟨G.β, G'.I⟩ H w' ∧ (∀ m n, Ext G w ⟨G.β, G'.I⟩ w' m n) ∧ ∀ {v : V} {x : Value}, VRel fid G' w' v x → old H.length v = true → VRel fid ⟨G.β, G'.I⟩ w' v x := by
  have hk := hE.keepAll hR hm
  have hsame := fun l h e => homes_same (l := l) (h := h) hR hR' hE.homes hs e
  refine ⟨⟨fun l h e => ?_, hR.inj, fun l h e => Nat.lt_of_lt_of_le (hR.blk l h e) hE.size, fun b hb => ⟨(hR'.imm b hb).1, fun l h e q => (hR'.imm b hb).2 l h (hsame l h e) q⟩, fun l h e q => hE.imm _ (hR.fzI l h e q),
      fun b o hg => ⟨hE.imm _ (hR.glob b o hg).1, by rw [hk b (hR.imm b (hR.glob b o hg).1).1]; exact (hR.glob b o hg).2⟩⟩, fun m n => ⟨hE.size, hE.os, hE.tape, hE.output, fun b hb _ => hk b hb, .refl _, fun l h e => .inl ⟨h, e, .inl rfl⟩, hE.imm, hE.newI⟩,
    fun hv ho => hv.restrict (G := G') (G' := ⟨G.β, G'.I⟩) (n := H.length) (fun l h hl e => ?_) (fun b hb => ⟨hb, rfl⟩) (.inl ho)⟩
  · obtain ⟨o, ho, r⟩ := hR.obj l h e
    exact ⟨o, ho, ORel.mono (G := G) (G' := ⟨G.β, G'.I⟩) (.refl _) (fun b hb => ⟨hE.imm b hb, hk b (hR.imm b hb).1⟩) (hk _ (hR.blk l h e)) r⟩
  · rcases hE.newH l h e with ⟨h0, e0, -⟩ | ⟨hl', -⟩
    · have := hsame l h0 e0
      rw [e] at this; cases this
      exact ⟨h, e0, rfl⟩
    · omega

theorem olds_append (n : Nat) : ∀ (a b : List V), olds n (a ++ b) = (olds n a && olds n b)
  | [], b => by simp [olds]
  | v :: a, b => by simp [olds, olds_append n a b, Bool.and_assoc]

theorem olds_cells (n : Nat) (v : V) (h : old n v = true) : olds n (cellsV v) = true := by
  cases v <;> simp_all [cellsV, olds, old]

theorem olds_flat (n : Nat) : ∀ {ds : List V}, olds n ds = true → olds n (ds.flatMap cellsV) = true
  | [], _ => rfl
  | d :: ds, h => by
    simp only [olds, Bool.and_eq_true] at h
    rw [List.flatMap_cons, olds_append, olds_cells n d h.1, olds_flat n h.2]; rfl

theorem finish_sound {fresh : Bool} {H1 : Heap} {v v' : V} {low low' : Nat} {x : Value} (hR : RelH C fid G H w) (hR' : RelH C fid G' H1 w') (hE : ∀ m, m ≤ low → Ext G w G' w' m H.length) (hf : Fr H H.length H1 low)
    (hv : VRel fid G' w' v x) (he : finish fresh H v H1 low = some (v', H', low')) : Post C fid G H w v' H' low' x w' := by
  unfold finish at he
  split at he
  · rename_i l es off len tag
    split at he
    · rename_i es' ds hl
      split at he
      · rename_i hc
        obtain ⟨c1, c2, c3, c4, c5⟩ := hc
        subst c3 c4
        cases he
        have hs := fun l hl' => hf.same l (Nat.lt_of_lt_of_le hl' c1)
        have hE0 := hE H.length c1
        obtain ⟨p1, p2, -⟩ := forget hR hR' hE0 (Nat.le_refl _) (Nat.le_refl _) hs
        obtain ⟨h, a, m, cap, hb, hle, ha, rfl⟩ := hv.srefInv
        obtain ⟨o, ho, hr⟩ := hR'.obj l h hb
        rw [hl] at ho; cases ho
        have hkb : w.heap.size ≤ h.b := by
          rcases hE0.newH l h hb with ⟨h0, e0, -⟩ | ⟨-, q⟩
          · have := hR.lt e0; omega
          · exact q
        have hnone := hR.none (Nat.le_refl H.length)
        let G2 : Gh := ⟨upd G.β H.length h, G'.I⟩
        have hle2 : HomesLe G.β G2.β := homes_upd_new hnone h
        have hsame := fun l h e => homes_same (l := l) (h := h) hR hR' hE0.homes hs e
        have hret : ∀ {vs : List V} {xs : List Value}, VRels fid G' w' vs xs → olds H.length vs = true → VRels fid G2 w' vs xs := fun hvs hold =>
          hvs.restrict (G := G') (G' := G2) (n := H.length) (fun y h0 hy e => by
            rcases hE0.newH y h0 e with ⟨h1, e1, -⟩ | ⟨hl', -⟩
            · have := hsame y h1 e1
              rw [e] at this; cases this
              exact ⟨h0, by show upd _ _ _ _ = _; rw [upd_other (by omega)]; exact e1, rfl⟩
            · omega) (fun b hb => ⟨hb, rfl⟩) (.inl hold)
        have hO : ORel C fid G2 w' h (.row es' ds false) := by
          obtain ⟨r1, r2, r3, r4, r5, c, e, vals, rest, r6, r7, r8, r9⟩ := hr
          exact ⟨r1, r2, r3, r4, r5, c, e, vals, rest, r6, r7, r8, hret r9 (olds_flat _ c5)⟩
        refine ⟨G2, ⟨fun y h0 e => ?_, fun y z h0 h1 e1 e2 q => ?_, fun y h0 e => ?_, fun b hb => ⟨(hR'.imm b hb).1, fun y h0 e q => ?_⟩, fun y h0 e q => ?_, p1.glob⟩, fun m hm => ?_, ?_⟩
        · by_cases hy : y = H.length
          · subst hy; rw [show G2.β = upd _ _ _ from rfl, upd_same] at e; cases e
            exact ⟨_, by simp, hO⟩
          · rw [show G2.β = upd _ _ _ from rfl, upd_other hy] at e
            obtain ⟨o, ho, r⟩ := p1.obj y h0 e
            exact ⟨o, by rw [List.getElem?_append_left (hR.lt e)]; exact ho, ORel.mono (G := ⟨G.β, G'.I⟩) (G' := G2) hle2 (fun b hb => ⟨hb, rfl⟩) rfl r⟩
        · by_cases hy : y = H.length <;> by_cases hz : z = H.length
          · rw [hy, hz]
          · subst hy; rw [show G2.β = upd _ _ _ from rfl, upd_same] at e1; cases e1
            rw [show G2.β = upd _ _ _ from rfl, upd_other hz] at e2
            have := hR.blk z h1 e2; omega
          · subst hz; rw [show G2.β = upd _ _ _ from rfl, upd_same] at e2; cases e2
            rw [show G2.β = upd _ _ _ from rfl, upd_other hy] at e1
            have := hR.blk y h0 e1; omega
          · rw [show G2.β = upd _ _ _ from rfl, upd_other hy] at e1
            rw [show G2.β = upd _ _ _ from rfl, upd_other hz] at e2
            exact hR.inj y z h0 h1 e1 e2 q
        · by_cases hy : y = H.length
          · subst hy; rw [show G2.β = upd _ _ _ from rfl, upd_same] at e; cases e; exact hR'.blk l h hb
          · rw [show G2.β = upd _ _ _ from rfl, upd_other hy] at e; exact p1.blk y h0 e
        · by_cases hy : y = H.length
          · subst hy; rw [show G2.β = upd _ _ _ from rfl, upd_same] at e; cases e
            exact (hR'.imm b hb).2 l h (by assumption) q
          · rw [show G2.β = upd _ _ _ from rfl, upd_other hy] at e; exact p1.imm b hb |>.2 y h0 e q
        · by_cases hy : y = H.length
          · subst hy; rw [show G2.β = upd _ _ _ from rfl, upd_same] at e; cases e
            exact hR'.fzI l h hb q
          · rw [show G2.β = upd _ _ _ from rfl, upd_other hy] at e; exact p1.fzI y h0 e q
        · have q := p2 m H.length
          exact ⟨q.size, q.os, q.tape, q.output, q.keep, hle2, fun y h0 e => by
            by_cases hy : y = H.length
            · subst hy; rw [show G2.β = upd _ _ _ from rfl, upd_same] at e; cases e; exact .inr ⟨Nat.le_refl _, hkb⟩
            · rw [show G2.β = upd _ _ _ from rfl, upd_other hy] at e; exact .inl ⟨h0, e, .inl rfl⟩, q.imm, q.newI⟩
        · exact .sref H.length es' off len _ h a m cap (upd_same _ _ _) hle ha
      · cases he
    · cases he
  · split at he
    · rename_i v1 H2 low2 hz
      obtain ⟨G2, fz, hv2⟩ := freezeV_sound hR' hv hz
      have hfr := hf.trans (freezeV_fr hz).1
      have hE2 : ∀ m, m ≤ low2 → Ext G w G2 w' m H.length := fun m hm => (hE m (Nat.le_trans hm fz.low)).trans ((fz.ext m hm).le (Nat.le_refl _) hf.len)
      split at he
      · rename_i hc
        cases he
        obtain ⟨p1, p2, p3⟩ := forget hR fz.rel (hE2 H.length hc.1) (Nat.le_refl _) (Nat.le_refl _) (fun l hl => hfr.same l (Nat.lt_of_lt_of_le hl hc.1))
        exact ⟨_, p1, fun m _ => p2 m _, p3 hv2 hc.2⟩
      · cases he
        exact ⟨G2, fz.rel, hE2, hv2⟩
    · cases he

/-! ### the results of a body -/

theorem loadA_addr {sh : Option Nat} {a u : V} {x : Value} (ha : VRel fid G w a x) (he : loadA H sh a = some u) : ∃ ad, x = .pointer (some ad) := by
  unfold loadA at he
  split at he
  · obtain ⟨h, -, -, rfl⟩ := ha.ptrInv; exact ⟨_, rfl⟩
  · obtain ⟨h, ad, -, -, -, rfl⟩ := ha.eptrInv; exact ⟨_, rfl⟩
  · cases ha with
    | pin _ f b o vals _ _ _ => exact ⟨_, rfl⟩
    | p _ _ h => cases h
  · cases he

def resOne (tmps : Array Value) : ResultVar → Sem Value
  | .tmp t => pure (tmps.getD t undef)
  | .cell a t => do loadVar t (← asAddr (tmps.getD a undef))

theorem resOne_run {r : ResultVar} {ar : ARes} (hr : C.res r = some ar) {vE : Env} {tmps : Array Value} (hR : RelH C fid G H w) (hv : ∀ t ∈ Ctx.resSlots [r], VRel fid G w (lookupE vE t) (tmps.getD t undef)) {v : V} (he : resultA vE H ar = some v) :
    ∃ x, (resOne tmps r).run C.P w = .ok x w ∧ VRel fid G w v x := by
  cases r with
  | tmp t =>
    simp only [Ctx.res, Option.some.injEq] at hr
    subst hr
    simp only [resultA, Option.some.injEq] at he
    subst he
    exact ⟨_, rfl, hv t (by simp [Ctx.resSlots])⟩
  | cell a t =>
    simp only [Ctx.res] at hr
    obtain ⟨sh, hsh, rfl⟩ := Option.map_eq_some_iff.1 hr
    simp only [resultA] at he
    have ha := hv a (by simp [Ctx.resSlots])
    obtain ⟨y, hy, hu⟩ := loadA_sound hR hsh ha he
    obtain ⟨ad, had⟩ := loadA_addr ha he
    rw [had] at hy
    refine ⟨y, ?_, hu⟩
    simp only [resOne, had, asAddr, Sem.run_bind, Sem.run_pure, Result.andThen_ok]
    simpa only [Instr.loadAt, Instr.sureAddr, Sem.run_bind, Sem.run_pure, Result.andThen_ok] using hy

theorem resSlots_cons (r : ResultVar) (rs : List ResultVar) : Ctx.resSlots (r :: rs) = Ctx.resSlots [r] ++ Ctx.resSlots rs := by cases r <;> rfl

theorem results_list : ∀ {rs : List ResultVar} {ars : List ARes}, mapO C.res rs = some ars → ∀ {vE : Env} {tmps : Array Value}, RelH C fid G H w → (∀ t ∈ Ctx.resSlots rs, VRel fid G w (lookupE vE t) (tmps.getD t undef)) →
    ∀ {vs : List V}, resultsA vE H ars = some vs → ∃ xs, (rs.mapM (resOne tmps)).run C.P w = .ok xs w ∧ VRels fid G w vs xs
  | [], ars, hm, vE, tmps, hR, hv, vs, he => by
    simp only [mapO, Option.some.injEq] at hm
    subst hm
    simp only [resultsA, Option.some.injEq] at he
    subst he
    exact ⟨[], by simp, .nil⟩
  | r :: rs, ars, hm, vE, tmps, hR, hv, vs, he => by
    simp only [mapO] at hm
    split at hm
    · rename_i ar h1
      split at hm
      · rename_i ars' h2
        cases hm
        simp only [resultsA] at he
        split at he
        · rename_i v h3
          split at he
          · rename_i vs' h4
            cases he
            rw [resSlots_cons] at hv
            obtain ⟨x, hx, hvx⟩ := resOne_run h1 hR (fun t ht => hv t (List.mem_append.2 (.inl ht))) h3
            obtain ⟨xs, hxs, hvs⟩ := results_list h2 hR (fun t ht => hv t (List.mem_append.2 (.inr ht))) h4
            refine ⟨x :: xs, ?_, .cons _ _ _ _ hvx hvs⟩
            rw [List.mapM_cons, Sem.run_bind, hx, Result.andThen_ok, Sem.run_bind, hxs, Result.andThen_ok, Sem.run_pure]
          · cases he
        · cases he
      · cases hm
    · cases hm

def tupV : List V → V
  | [v] => v
  | vs => .tup vs

theorem results_run {fn : Func} {ars : List ARes} (hm : mapO C.res fn.results.toList = some ars) {vE : Env} {tmps : Array Value} (hR : RelH C fid G H w) (hv : ∀ t ∈ Ctx.resSlots fn.results.toList, VRel fid G w (lookupE vE t) (tmps.getD t undef))
    {vs : List V} (he : resultsA vE H ars = some vs) : ∃ x, (results fn tmps).run C.P w = .ok x w ∧ VRel fid G w (tupV vs) x := by
  obtain ⟨xs, hx, hvs⟩ := results_list hm hR hv he
  have e : results fn tmps = (do let vs ← fn.results.mapM (resOne tmps); pure (if h : vs.size = 1 then vs[0] else .tuple vs)) := by
    unfold results
    congr 1
  rw [e]
  refine ⟨if h : (⟨xs⟩ : Array Value).size = 1 then (⟨xs⟩ : Array Value)[0] else .tuple ⟨xs⟩, ?_, ?_⟩
  · rw [Sem.run_bind, Array.mapM_eq_mapM_toList, Sem.run_map, hx]
    simp only [Result.andThen_ok, Sem.run_pure]
  · cases hvs with
    | nil => exact .tup [] [] .nil
    | cons v x vs xs h hs =>
      cases hs with
      | nil => exact h
      | cons v2 x2 vs2 xs2 h2 hs2 =>
        have : ¬ (⟨x :: x2 :: xs2⟩ : Array Value).size = 1 := by simp
        rw [dif_neg this]
        exact .tup _ _ (.cons _ _ _ _ h (.cons _ _ _ _ h2 hs2))

end Go.Abs
