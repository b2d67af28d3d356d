/- The code of a body: where the executor goes on, the machine goes on alike. -/
import Derived.Test.YteiajndkjnlmiaaGreatDoorXeRegion3
set_option linter.unusedVariables false
set_option linter.unusedSimpArgs false
namespace Go.Abs
open Go
variable {C : Ctx} {fid : Nat → Nat} {w w' : World} {G G' : Gh} {H H' : Heap}

def toExit : X → Exit
  | .normal => .normal
  | .exit id => .exit id
  | .ret => .ret

/-- The round whose frame it is. -/
def RoRel (G : Gh) : Option Nat → Option Nat → Prop
  | none, none => True
  | some l, some b => ∃ h, G.β l = some h ∧ h.tag = 0 ∧ h.b = b
  | _, _ => False

theorem RoRel.ext {m n : Nat} (h : Ext G w G' w' m n) : ∀ {l b : Option Nat}, RoRel G l b → RoRel G' l b
  | none, none, _ => trivial
  | some l, some b, ⟨h0, e, t, q⟩ => by
    obtain ⟨h', e', -, z, m, -⟩ := h.homes l h0 e
    exact ⟨h', e', z t, by rw [(m ((z t).trans t.symm)).1]; exact q⟩
  | none, some _, k | some _, none, k => k.elim

def markOf (r : Nat) : Deferred := { target := .collected r, args := #[] }

/-- The blocks for the deferred calls of rounds: nobody's, and empty. -/
structure MarkOk (G : Gh) (w : World) (base r : Nat) : Prop where
  base : base ≤ r
  lt : r < w.heap.size
  obj : w.heap[r]? = some (.deferred (some []))
  home : ∀ l h, G.β l = some h → h.b ≠ r
  imm : ¬ G.I r

def MarksOk (G : Gh) (w : World) (base : Nat) (ds : List Deferred) : Prop := ∃ rs : List Nat, ds = rs.map markOf ∧ rs.Nodup ∧ ∀ r ∈ rs, MarkOk G w base r

theorem MarkOk.ext {m n base r : Nat} (h : Ext G w G' w' m n) (k : MarkOk G w base r) : MarkOk G' w' base r where
  base := k.base
  lt := Nat.lt_of_lt_of_le k.lt h.size
  obj := by rw [h.keep r k.lt fun l x e1 e2 => absurd e2 (k.home l x e1)]; exact k.obj
  home l x e q := by
    rcases h.newH' l x e with ⟨x0, e0, eb⟩ | hs
    · exact k.home l x0 e0 (eb.trans q)
    · have := k.lt; omega
  imm hi := by
    rcases h.newI r hi with h1 | h1 | ⟨l, x, e, eb⟩
    · exact k.imm h1
    · have := k.lt; omega
    · exact k.home l x e eb

theorem MarksOk.ext {m n base : Nat} {ds : List Deferred} (h : Ext G w G' w' m n) : MarksOk G w base ds → MarksOk G' w' base ds
  | ⟨rs, e, nd, k⟩ => ⟨rs, e, nd, fun r hr => (k r hr).ext h⟩

theorem opd_rel (hC : CtxOk C fid) {vars : List Nat} {N : Nat} {st : St} {a : Act} (hR : RelSt C fid vars N G st a w) : OpdRel C fid vars G w (Opd.ev st.tE st.vE) a.eval := fun x ax hx => by
  cases x with
  | tmp t =>
    simp only [Ctx.opd, Option.some.injEq] at hx
    have e : ax.ev st.tE st.vE = lookS vars st t := by rw [← hx]; unfold lookS; split <;> rfl
    rw [e]; exact hR.env t
  | const u =>
    simp only [Ctx.opd] at hx
    obtain ⟨cv, hcv, rfl⟩ := Option.map_eq_some_iff.1 hx
    rcases constV_sound (I := G.I) (w := w) u hcv with rfl | hp
    · exact .undef _
    · exact .p _ _ hp
  | func f => exact opd_func hC hx
  | global g => simp [Ctx.opd] at hx

/-- A loop of at most k rounds. -/
theorem wpIn_iter {F : Fence} {n : Nat} {P : Program} {Q : Exit → Act → World → Prop} {c : Code} (I : Nat → Act → World → Prop)
    (round : ∀ k a w, I k a w → ∃ k', k = k' + 1 ∧ c.wpIn F n P (Exit.then (I k') Q) a w) {j : Nat} {a : Act} {w : World} (h₀ : I j a w) : (Code.loop c).wpIn F n P Q a w := by
  intro b k cs hro hb hr
  have key : ∀ j a w, I j a w →
      ∃ e a' w', Q e a' w' ∧ ArrivesIn (Machine.fenced P F) P (lone (b.atR a (.code c :: .inLoop c :: k)) cs w) b k cs e a' w' := by
    intro j
    induction j with
    | zero =>
      intro a w hI
      obtain ⟨k', e, -⟩ := round 0 a w hI
      omega
    | succ j ih =>
      intro a w hI
      obtain ⟨k', e, hr'⟩ := round _ a w hI
      cases e
      obtain ⟨e, a₁, w₁, hq, harr⟩ := hr' b (.inLoop c :: k) cs hro hb hr
      cases e with
      | normal =>
        obtain ⟨e₂, a₂, w₂, hq₂, harr₂⟩ := ih a₁ w₁ hq
        exact ⟨e₂, a₂, w₂, hq₂, .of_steps (StepsIn.trans harr (.one (fenced_calm hb hr rfl) stepR_inLoop)) harr₂⟩
      | exit id => exact ⟨_, a₁, w₁, hq, .pass (x := .inLoop c) rfl (fun _ _ => .inl (by simp)) harr⟩
      | goto l => exact ⟨_, a₁, w₁, hq, .pass (x := .inLoop c) rfl (fun _ _ => .inl (by simp)) harr⟩
      | ret => exact ⟨_, a₁, w₁, hq, .pass (x := .inLoop c) rfl (fun _ _ => .inl (by simp)) harr⟩
      | panic ch => exact ⟨_, a₁, w₁, hq, .pass (x := .inLoop c) rfl (fun _ _ => .inl (by simp)) harr⟩
      | outgrown => exact ⟨_, a₁, w₁, hq, .pass (x := .inLoop c) rfl (fun _ _ => .inl (by simp)) harr⟩
  obtain ⟨e, a', w', hq, harr⟩ := key _ a w h₀
  exact ⟨e, a', w', hq, .of_steps (.one (fenced_calm hb hr rfl) stepR_loop) harr⟩

/-- What holds when a piece of code has come to its end. -/
structure Fin (C : Ctx) (fid : Nat → Nat) (vars : List Nat) (N base : Nat) (st : St) (G : Gh) (w : World) (st' : St) (G' : Gh) (a' : Act) (w' : World) : Prop where
  rel : RelSt C fid vars N G' st' a' w'
  ext : ∀ m, m ≤ st'.low → Ext G w G' w' m st.H.length
  marks : MarksOk G' w' base a'.defers

/-- Where the executor goes on, the machine goes on alike. -/
def CodeOk (C : Ctx) (fid : Nat → Nat) (call : CallT) (n : Nat) (c : Code) : Prop :=
  ∀ (ac : ACode) (vars : List Nat) (N : Nat), C.code vars N c = some ac → ∀ (st : St) (x : X) (st' : St), exec call n ac st = some (x, st') →
  ∀ (G : Gh) (a : Act) (w : World) (ro : Option Nat) (base : Nat) (Q : Exit → Act → World → Prop), RelSt C fid vars N G st a w → RoRel G st.ro ro → MarksOk G w base a.defers → base ≤ w.heap.size →
    (∀ G' a' w', Fin C fid vars N base st G w st' G' a' w' → Q (toExit x) a' w') → c.wpIn (FW ro) 0 C.P Q a w

section
variable {call : CallT} {n : Nat}

theorem Fin.refl {vars : List Nat} {N base : Nat} {st : St} {a : Act} (h : RelSt C fid vars N G st a w) (k : MarksOk G w base a.defers) : Fin C fid vars N base st G w st G a w :=
  ⟨h, fun m _ => .refl _ _ _ _, k⟩

theorem Fin.trans {vars : List Nat} {N base : Nat} {st st1 st2 : St} {G1 G2 : Gh} {a1 a2 : Act} {w1 w2 : World} (h : Fin C fid vars N base st G w st1 G1 a1 w1) (k : Fin C fid vars N base st1 G1 w1 st2 G2 a2 w2)
    (f1 : FrS st st1) (f2 : FrS st1 st2) : Fin C fid vars N base st G w st2 G2 a2 w2 :=
  ⟨k.rel, fun m hm => (h.ext m (Nat.le_trans hm f2.1.low)).trans ((k.ext m hm).le (Nat.le_refl _) f1.1.len), k.marks⟩

theorem code_region (hmix : C.P.follows .mixedOrders = true) (hC : CtxOk C fid) (hcall : CallOk C fid call) (id : Nat) (ops : Array Oper) (draw : Bool) : CodeOk C fid call n (.region id ops draw) := by
  intro ac vars N hc st x st' he G a w ro base Q hR hro hmk hb hQ
  simp only [Ctx.code] at hc
  split at hc
  · rename_i aops hm
    cases hd : draw with
    | false =>
      rw [hd] at hc
      simp only [Bool.not_false, if_true, Option.some.injEq] at hc
      subst hc
      simp only [exec] at he
      split at he
      · rename_i st1 wr h1
        cases he
        exact region_seq hC hcall hm h1 hR fun G' a' w' r1 r2 r3 => hQ G' a' w' ⟨r1.clear, r2, by rw [r3]; exact hmk.ext (r2 0 (Nat.zero_le _))⟩
      · cases he
    | true =>
      rw [hd] at hc
      simp only [Bool.not_true, Bool.false_eq_true, if_false] at hc
      split at hc
      · rename_i hcond
        simp only [Bool.and_eq_true] at hcond
        obtain ⟨⟨h1, h2⟩, h3⟩ := hcond
        cases hc
        simp only [exec] at he
        split at he
        · rename_i st1 wr h4
          split at he
          · rename_i hin
            cases he
            exact region_any hmix hC hcall hm h1 h2 h3 h4 hin hR fun G' a' w' r1 r2 r3 => hQ G' a' w' ⟨r1.clear, r2, by rw [r3]; exact hmk.ext (r2 0 (Nat.zero_le _))⟩
          · cases he
        · cases he
      · cases hc
  · cases hc

theorem code_seq (hfr : CallFr call) {x y : Code} (hx : CodeOk C fid call n x) (hy : CodeOk C fid call n y) : CodeOk C fid call n (.seq x y) := by
  intro ac vars N hc st r st' he G a w ro base Q hR hro hmk hb hQ
  simp only [Ctx.code] at hc
  split at hc
  · rename_i ax ay h1 h2
    cases hc
    simp only [exec] at he
    refine wpIn_seq ?_
    split at he
    · rename_i st1 he1
      have f1 := exec_fr hfr n _ _ _ _ hR.low he1
      refine hx _ _ _ h1 _ _ _ he1 G a w ro base _ hR hro hmk hb fun G1 a1 w1 F1 => ?_
      have f2 := exec_fr hfr n _ _ _ _ F1.rel.low he
      exact hy _ _ _ h2 _ _ _ he G1 a1 w1 ro base _ F1.rel (by rw [f1.2]; exact hro.ext (F1.ext 0 (Nat.zero_le _))) F1.marks (Nat.le_trans hb (F1.ext 0 (Nat.zero_le _)).size) fun G2 a2 w2 F2 => hQ G2 a2 w2 (F1.trans F2 f1 f2)
    · rename_i hne
      refine hx _ _ _ h1 _ _ _ he G a w ro base _ hR hro hmk hb fun G1 a1 w1 F1 => ?_
      have := hQ G1 a1 w1 F1
      cases r with
      | normal => exact absurd he (hne _)
      | exit id => exact this
      | ret => exact this
  · cases hc

theorem code_cond (hC : CtxOk C fid) {o : Operand} {x y : Code} (hx : CodeOk C fid call n x) (hy : CodeOk C fid call n y) : CodeOk C fid call n (.cond o x y) := by
  intro ac vars N hc st r st' he G a w ro base Q hR hro hmk hb hQ
  simp only [Ctx.code] at hc
  split at hc
  · rename_i c ax ay h0 h1 h2
    cases hc
    simp only [exec] at he
    have hv := opd_rel hC hR o c h0
    split at he
    · rename_i hb1
      rw [hb1] at hv
      exact wpIn_cond_true hv.boolInv (hx _ _ _ h1 _ _ _ he G a w ro base Q hR hro hmk hb hQ)
    · rename_i hb1
      rw [hb1] at hv
      exact wpIn_cond_false hv.boolInv (hy _ _ _ h2 _ _ _ he G a w ro base Q hR hro hmk hb hQ)
    · cases he
  · cases hc

theorem code_block {id : Nat} {x : Code} (hx : CodeOk C fid call n x) : CodeOk C fid call n (.block id x) := by
  intro ac vars N hc st r st' he G a w ro base Q hR hro hmk hb hQ
  simp only [Ctx.code] at hc
  obtain ⟨ax, h1, rfl⟩ := Option.map_eq_some_iff.1 hc
  simp only [exec] at he
  refine wpIn_block ?_
  split at he
  · rename_i id' st1 he1
    refine hx _ _ _ h1 _ _ _ he1 G a w ro base _ hR hro hmk hb fun G1 a1 w1 F1 => ?_
    split at he
    · rename_i hid
      cases he
      simp only [toExit, Exit.inBlock, hid, if_true]
      exact hQ G1 a1 w1 F1
    · rename_i hid
      cases he
      simp only [toExit, Exit.inBlock, hid, if_false]
      exact hQ G1 a1 w1 F1
  · rename_i hne
    refine hx _ _ _ h1 _ _ _ he G a w ro base _ hR hro hmk hb fun G1 a1 w1 F1 => ?_
    have := hQ G1 a1 w1 F1
    cases r with
    | normal => exact this
    | exit id => exact absurd he (hne _ _)
    | ret => exact this

theorem code_loop (hfr : CallFr call) {x : Code} (hx : CodeOk C fid call n x) : CodeOk C fid call n (.loop x) := by
  intro ac vars N hc st r st' he G a w ro base Q hR hro hmk hb hQ
  simp only [Ctx.code] at hc
  obtain ⟨ax, h1, rfl⟩ := Option.map_eq_some_iff.1 hc
  simp only [exec] at he
  refine wpIn_iter (fun k a1 w1 => ∃ st1 G1, iter (exec call n ax) k st1 = some (r, st') ∧ FrS st st1 ∧ Fin C fid vars N base st G w st1 G1 a1 w1) ?_ ⟨st, G, he, .refl _, .refl hR hmk⟩
  rintro k a1 w1 ⟨st1, G1, hi, hf, F1⟩
  cases k with
  | zero => simp [iter] at hi
  | succ k =>
    refine ⟨k, rfl, ?_⟩
    simp only [iter] at hi
    have hro1 : RoRel G1 st1.ro ro := by rw [hf.2]; exact hro.ext (F1.ext 0 (Nat.zero_le _))
    have hb1 : base ≤ w1.heap.size := Nat.le_trans hb (F1.ext 0 (Nat.zero_le _)).size
    split at hi
    · rename_i st2 he2
      have f2 := exec_fr hfr n _ _ _ _ F1.rel.low he2
      exact hx _ _ _ h1 _ _ _ he2 G1 a1 w1 ro base _ F1.rel hro1 F1.marks hb1 fun G2 a2 w2 F2 => ⟨st2, G2, hi, hf.trans f2, F1.trans F2 hf f2⟩
    · rename_i hne
      have f2 := exec_fr hfr n _ _ _ _ F1.rel.low hi
      refine hx _ _ _ h1 _ _ _ hi G1 a1 w1 ro base _ F1.rel hro1 F1.marks hb1 fun G2 a2 w2 F2 => ?_
      have := hQ G2 a2 w2 (F1.trans F2 hf f2)
      cases r with
      | normal => exact absurd hi (hne _)
      | exit id => exact this
      | ret => exact this

end
end Go.Abs
