/- Tables of functions as search trees. -/
import Derived.Test.YtklgjajhccjbjaaGreatDoorP00
set_option linter.unusedVariables false
set_option linter.unusedSimpArgs false
namespace Go.Abs

/-! ### tables as trees -/

inductive FTree where
  | leaf
  | node (l : FTree) (k : Nat) (f : Fun) (r : FTree)

def FTree.get : FTree → Nat → Option Fun
  | .leaf, _ => none
  | .node l k f r, i => bif Nat.blt i k then l.get i else bif Nat.blt k i then r.get i else some f

def FTree.All (P : Nat → Fun → Prop) : FTree → Prop
  | .leaf => True
  | .node l k f r => l.All P ∧ P k f ∧ r.All P

theorem FTree.get_all {P : Nat → Fun → Prop} : ∀ {t : FTree} {i : Nat} {f : Fun}, t.All P → t.get i = some f → P i f
  | .leaf, _, _, _, h => by cases h
  | .node l k f r, i, g, ⟨h1, h2, h3⟩, h => by
    simp only [FTree.get] at h
    cases e1 : Nat.blt i k with
    | true => rw [e1] at h; exact FTree.get_all h1 h
    | false =>
      rw [e1] at h
      cases e2 : Nat.blt k i with
      | true => rw [e2] at h; exact FTree.get_all h3 h
      | false =>
        rw [e2] at h
        have h' : some f = some g := h
        cases h'
        have a : ¬ i < k := fun q => by
          have h2 : Nat.blt i k = true := Nat.ble_eq_true_of_le q
          rw [h2] at e1; cases e1
        have b : ¬ k < i := fun q => by
          have h2 : Nat.blt k i = true := Nat.ble_eq_true_of_le q
          rw [h2] at e2; cases e2
        have : i = k := by omega
        rw [this]; exact h2
/-- The words of several calls. -/
def memos (l : List (List V × V)) : List V → Option V := fun args => match l with
  | [] => none
  | (as, v) :: r => bif eqVs args as then some v else memos r args

/-- A table with one more word. -/
def over (tab : Nat → Option Fun) (k : Nat) (spec : List V → Option V) : Nat → Option Fun := fun i => bif Nat.beq i k then some (.ext spec) else tab i

/-- All that the words say was reckoned. -/
def Reckoned (tab : Nat → Option Fun) (n i : Nat) : List (List V × V) → Prop
  | [] => True
  | (as, v) :: r => (isP v = true ∧ callN tab n (.fn i [] []) as [] = some (v, [], 0)) ∧ Reckoned tab n i r

end Go.Abs
