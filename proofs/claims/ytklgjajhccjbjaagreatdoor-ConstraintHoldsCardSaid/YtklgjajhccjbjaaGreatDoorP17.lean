/- A loop, round by round, whatever its condition is. -/
import Derived.Test.YtklgjajhccjbjaaGreatDoorP00
set_option linter.unusedVariables false
set_option linter.unusedSimpArgs false
namespace Go.Abs
open Go
theorem while_loop {tab : Nat → Option Fun} {c : ACode} {I : Nat → St → Prop} {Q : X → St → Prop} {N : Nat}
    (round : ∀ k st, k < N → I k st → ∃ x st2, execL tab c st = some (x, st2) ∧ if x = .normal then I (k + 1) st2 else Q x st2)
    (done : ∀ st, I N st → ∃ x st2, execL tab c st = some (x, st2) ∧ x ≠ .normal ∧ Q x st2) :
    ∀ j k st, k + j = N → I k st → ∃ x st', execL tab (.loop c) st = some (x, st') ∧ Q x st' := by
  intro j
  induction j with
  | zero =>
    intro k st hk hI
    have : k = N := by omega
    subst this
    obtain ⟨x, st2, h1, h2, h3⟩ := done st hI
    refine ⟨x, st2, ?_, h3⟩
    rw [execL_loop, h1]
    cases x <;> first | rfl | exact absurd rfl h2
  | succ j ih =>
    intro k st hk hI
    obtain ⟨x, st2, h1, h2⟩ := round k st (by omega) hI
    by_cases hx : x = .normal
    · subst hx
      rw [if_pos rfl] at h2
      obtain ⟨x', st', r1, r2⟩ := ih (k + 1) st2 (by omega) h2
      exact ⟨x', st', by rw [execL_loop, h1]; exact r1, r2⟩
    · rw [if_neg hx] at h2
      refine ⟨x, st2, ?_, h2⟩
      rw [execL_loop, h1]
      cases x <;> first | rfl | exact absurd rfl hx
end Go.Abs
