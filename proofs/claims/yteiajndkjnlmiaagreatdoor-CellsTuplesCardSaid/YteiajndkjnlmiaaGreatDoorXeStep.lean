/- All operations but the calls of functions. -/
import Derived.Test.YteiajndkjnlmiaaGreatDoorXeOps10
set_option linter.unusedVariables false
set_option linter.unusedSimpArgs false
namespace Go.Abs
open Go
variable {C : Ctx} {fid : Nat → Nat} {w w' : World} {G G' : Gh} {H : Heap}
section
variable {vars : List Nat} {ev : Opd → V} {ρ : Operand → Value} {low low' : Nat} {v : V} {H' : Heap} {pos : String} {aop : AOp} {o : Oper}

theorem arr2 {α : Type} {a : Array α} {x y : α} (h : a.toList = [x, y]) : a = #[x, y] := by cases a; simp_all
theorem arr1 {α : Type} {a : Array α} {x : α} (h : a.toList = [x]) : a = #[x] := by cases a; simp_all

theorem s_builtin (hR : RelH C fid G H w) (hρ : OpdRel C fid vars G w ev ρ) {b : Builtin} {args : Array Operand} {ts : Array TypeId} (ho : o.op = .call { callee := .builtin b, args, argTypes := ts })
    (hc : C.builtin vars b args ts = some aop) (he : step ev H low aop = some (v, H', low')) : Did C fid G H w low ((execOp ρ o).run C.P w) v H' low' := by
  unfold Ctx.builtin at hc
  split at hc
  · rename_i x t ha ht
    split at hc
    · rename_i hu
      obtain ⟨ax, hx, rfl⟩ := Option.map_eq_some_iff.1 hc
      exact s_len hR hρ ho (arr1 ha) (arr1 ht) hx (by simpa using hu) he
    · rename_i e hu
      obtain ⟨ax, hx, rfl⟩ := Option.map_eq_some_iff.1 hc
      exact s_len hR hρ ho (arr1 ha) (arr1 ht) hx (by simpa using ⟨e, hu⟩) he
    · rename_i k e hu
      obtain ⟨ax, hx, rfl⟩ := Option.map_eq_some_iff.1 hc
      exact s_len hR hρ ho (arr1 ha) (arr1 ht) hx (by simpa using ⟨k, e, hu⟩) he
    · cases hc
  · rename_i a b t u ha ht
    split at hc
    · rename_i e e' h1 h2
      split at hc
      · rename_i i aa ab hi hx hy
        split at hc
        · cases hc
        · rename_i hn
          simp only [Option.some.injEq] at hc; subst hc
          have hn2 : i.size ≠ 0 ∧ i.zero.map (fun z => z.cells.size) = some i.size := by
            simp only [Bool.or_eq_true, decide_eq_true_eq, bne_iff_ne, ne_eq, not_or, Decidable.not_not] at hn
            exact hn
          obtain ⟨zv, hz, hzs⟩ := Option.map_eq_some_iff.1 hn2.2
          exact s_append hR hρ ho (arr2 ha) (arr2 ht) hx hy h1 h2 hi hz hzs (Nat.pos_of_ne_zero hn2.1) he
      · cases hc
    · cases hc
  · rename_i a b ha
    split at hc
    · rename_i aa ab hx hy
      simp only [Option.some.injEq] at hc; subst hc
      exact s_minmax hR hρ ho (arr2 ha) (mx := true) rfl hx hy he
    · cases hc
  · rename_i a b t u ha ht
    split at hc
    · rename_i e e' h1 h2
      split at hc
      · rename_i n aa ab hi hx hy
        split at hc
        · cases hc
        · simp only [Option.some.injEq] at hc; subst hc
          exact s_copy (e' := e') hR hρ ho (arr2 ha) (arr2 ht) hx hy h1 hi he
      · cases hc
    · cases hc
  · rename_i a b ha
    split at hc
    · rename_i aa ab hx hy
      simp only [Option.some.injEq] at hc; subst hc
      exact s_minmax hR hρ ho (arr2 ha) (mx := false) rfl hx hy he
    · cases hc
  · cases hc

theorem step_sound (hC : CtxOk C fid) (hR : RelH C fid G H w) (hρ : OpdRel C fid vars G w ev ρ) (hlow : low ≤ H.length)
    (he : step ev H low (C.op vars pos o.op) = some (v, H', low')) : Did C fid G H w low ((execOp ρ o).run C.P w) v H' low' := by
  unfold Ctx.op at he
  cases hc : C.op0 vars pos o.op with
  | none => rw [hc] at he; simp [step] at he
  | some aop =>
    rw [hc] at he
    simp only [Option.getD_some] at he
    cases hop : o.op with
    | move x => exact s_move hR hρ (.inl hop) hc he
    | assign x => exact s_move hR hρ (.inr hop) hc he
    | pick c a b => exact s_pick hR hρ hop hc he
    | alloc t => exact s_alloc hR hop hc he
    | box t x => exact s_box hR hρ hop hc he
    | build t parts => exact s_build hR hρ hop hc he
    | buildSlice t l parts => exact s_lit hR hρ hop hc he
    | load t a => exact s_load hR hρ hop hc he
    | store t a x => exact s_store hR hρ hop hc hlow he
    | nilCheck x => exact s_nilCheck hR hρ hop hc he
    | binOp a b c d e => exact s_bin hR hρ hop hc he
    | unOp a b c => exact s_un hR hρ hop hc he
    | convert a b c => exact s_convert hR hρ hop hc he
    | makeInterface a b => exact s_mkIface hR hρ hop hc he
    | makeFunc a b c => exact s_mkFn hC hR hρ hop hc he
    | makeMap a b => exact s_mkMap hR hop hc he
    | makeSlice a b c => exact s_mkSlice hR hρ hop hc he
    | slice a b c d e => exact s_slice hR hρ hop hc he
    | fieldAddr a b c => exact s_fieldAddr hR hρ hop hc he
    | field a b c => exact s_field hR hρ hop hc he
    | indexAddr a b c => exact s_indexAddr hR hρ hop hc he
    | index a b c => exact s_indexS hR hρ hop hc he
    | lookup a b c d => exact s_lookup hR hρ hop hc he
    | mapUpdate a b c d => exact s_mapUpd hR hρ hop hc he
    | extract a b => exact s_extract hR hρ hop hc he
    | call c =>
      rw [hop] at hc
      obtain ⟨callee, args, ats⟩ := c
      cases callee with
      | builtin b => exact s_builtin hR hρ hop hc he
      | value f =>
        simp only [Ctx.op0] at hc
        split at hc
        · simp only [Option.some.injEq] at hc; subst hc; simp [step] at he
        · cases hc
      | _ => simp [Ctx.op0] at hc
    | _ => rw [hop] at hc; simp [Ctx.op0] at hc
end
end Go.Abs
