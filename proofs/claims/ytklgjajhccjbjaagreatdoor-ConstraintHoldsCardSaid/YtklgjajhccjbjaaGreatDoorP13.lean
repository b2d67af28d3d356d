/- The word that a function's reckoning at the empty heap gives, whatever it is. -/
import Derived.Test.YtklgjajhccjbjaaGreatDoorP10
set_option linter.unusedVariables false
set_option linter.unusedSimpArgs false
namespace Go.Abs
open Go
variable {C : Ctx} {fid : Nat → Nat}

/-- What a function answers where it leaves the empty heap empty. -/
noncomputable def word (tab : Nat → Option Fun) (i : Nat) : List V → Option V := fun args =>
  match callL tab (.fn i [] []) args [] with
  | some (v, [], 0) => if isP v = true then some v else none
  | _ => none

theorem word_eq {tab : Nat → Option Fun} {i : Nat} {args : List V} {v : V} (h : callL tab (.fn i [] []) args [] = some (v, [], 0)) (hp : isP v = true) : word tab i args = some v := by
  unfold word
  rw [h]
  exact if_pos hp

theorem word_ok (hmix : C.P.follows .mixedOrders = true) (hC : CtxOk C fid) {tab : Nat → Option Fun} (hT : TabOk C fid tab) {i : Nat} {f : AFunc} (hi : tab i = some (.code f)) : ExtOk C fid i (word tab i) :=
  ext_of_execL hmix hC hT hi fun args v h => by
    unfold word at h
    split at h
    · rename_i u e
      split at h
      · rename_i hp
        cases h
        exact ⟨hp, _, _, e⟩
      · cases h
    · cases h
end Go.Abs
