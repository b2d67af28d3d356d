/- A function that calls itself, met by words: each word is what the body answers over the word before it. -/
import Derived.Test.YtklgjajhccjbjaaGreatDoorP13
set_option linter.unusedVariables false
set_option linter.unusedSimpArgs false
namespace Go.Abs
open Go
variable {C : Ctx} {fid : Nat → Nat}

theorem bodyL_some {tab : Nat → Option Fun} {f : AFunc} {args : List V} {r : V × Heap × Nat} (h : callBody (execL tab) f args [] = some r) : ∃ n, callBody (exec (callN tab n) n) f args [] = some r := by
  unfold callBody at h
  split at h
  · rename_i hl
    split at h
    · rename_i st h1
      obtain ⟨n, hn⟩ := execL_iff.1 h1
      exact ⟨n, by simp only [callBody]; rw [if_pos hl, hn]; exact h⟩
    · rename_i st h1
      obtain ⟨n, hn⟩ := execL_iff.1 h1
      exact ⟨n, by simp only [callBody]; rw [if_pos hl, hn]; exact h⟩
    · cases h
  · cases h

theorem ext_of_body (hmix : C.P.follows .mixedOrders = true) (hC : CtxOk C fid) {tab : Nat → Option Fun} (hT : TabOk C fid tab) {i : Nat} {f : AFunc} (hf : ∃ fn, C.P.funcs[i]? = some fn ∧ C.func fn f.fresh = some f) {spec : List V → Option V}
    (hs : ∀ args v, spec args = some v → isP v = true ∧ ∃ H' l, callBody (execL tab) f args [] = some (v, H', l)) : ExtOk C fid i spec := by
  intro G H w args v xs hR hxs hsp
  obtain ⟨hp, H', l, he⟩ := hs args v hsp
  obtain ⟨n, hn⟩ := bodyL_some he
  obtain ⟨fn, hfn, hfun⟩ := hf
  have hc := body_sound hmix hC (callN_ok hmix hC hT n) hfn hfun hn hR.apart (PRels.toV hxs)
  obtain ⟨c, hb, -, -, hname, -⟩ := func_inv hfun
  rw [callFunc_run hfn hb hname]
  exact Calls.mono hc fun e w' => fun ⟨x, e1, e2⟩ => ⟨x, e1, e2.beside hR hp⟩

/-- The words of a function that calls itself, to a depth. -/
noncomputable def recWord (tab : Nat → Option Fun) (i : Nat) (f : AFunc) : Nat → List V → Option V
  | 0 => fun _ => none
  | d + 1 => fun args => match callBody (execL (over tab i (recWord tab i f d))) f args [] with
    | some (v, [], 0) => if isP v = true then some v else none
    | _ => none

theorem recWord_eq {tab : Nat → Option Fun} {i : Nat} {f : AFunc} {d : Nat} {args : List V} {v : V} (h : callBody (execL (over tab i (recWord tab i f d))) f args [] = some (v, [], 0)) (hp : isP v = true) : recWord tab i f (d + 1) args = some v := by
  rw [recWord]
  simp only [h]
  exact if_pos hp

theorem recWord_ok (hmix : C.P.follows .mixedOrders = true) (hC : CtxOk C fid) {tab : Nat → Option Fun} (hT : TabOk C fid tab) {i : Nat} {f : AFunc} (hf : ∃ fn, C.P.funcs[i]? = some fn ∧ C.func fn f.fresh = some f) : ∀ d, ExtOk C fid i (recWord tab i f d)
  | 0 => by
    intro _ _ h
    rw [recWord] at h
    cases h
  | d + 1 => ext_of_body hmix hC (over_ok hT (recWord_ok hmix hC hT hf d)) hf fun args v h => by
    rw [recWord] at h
    simp only [] at h
    split at h
    · rename_i u e
      split at h
      · rename_i hp
        cases h
        exact ⟨hp, _, _, e⟩
      · cases h
    · cases h
end Go.Abs
