/- Texts of this claim, joined and written short by a program. -/
import Derived.Test.YtjgngmpmjbkbpaaGreatDoorP16
import Derived.Test.YtjgngmpmjbkbpaaGreatDoorP00
set_option linter.unusedVariables false
set_option linter.unusedSimpArgs false
set_option linter.unusedSectionVars false
namespace Go.Abs
def aBH : Option ca -> iw
 | some (.code f) => f
 | _ => ⟨0, .skip, [], false⟩
def DM : cm -> cm | .seq a _ => a | c => c
def pF : cm -> cm | .seq _ a => a | c => c
def aBI : cm -> cm | .block _ (.loop c) => c | c => c
def DN : List cm -> cm -> cm
 | [], c => c
 | a :: r, c => .seq a (DN r c)
variable {ad : Nat -> Option ca}
theorem awR {n : Nat} {c : cm} : ∀ {l : List cm} {st aU : au}, CP (cu ad n) n l st = some aU -> dO ad (DN l c) st = dO ad c aU
 | [], st, aU, h => by cases h; rfl
 | a :: r, st, aU, h => by
   simp only [CP] at h
   split at h
   · rename_i s hs
     simp only [DN, jD, fS.2 ⟨n, hs⟩]
     exact awR h
   · cases h
theorem awS {n i : Nat} {X R : cm} : ∀ {k : Nat} {st aU : au}, CP (cu ad n) n (List.replicate k X) st = some aU -> dO ad (.seq (.block i (.loop X)) R) st = dO ad (.seq (.block i (.loop X)) R) aU
 | 0, st, aU, h => by cases h; rfl
 | k + 1, st, aU, h => by
   simp only [List.replicate, CP] at h
   split at h
   · rename_i s hs
     rw [<- awS h, jD, jD, nw, nw, se X st, fS.2 ⟨n, hs⟩]
   · cases h
theorem awT {call : c3} {n : Nat} {m : List cm} {aU : au} : ∀ {l : List cm} {st : au}, CP call n (l ++ m) st = some aU -> ∃ s, CP call n l st = some s /\ CP call n m s = some aU
 | [], st, h => ⟨st, rfl, h⟩
 | a :: r, st, h => by
   simp only [oX, CP] at h
   split at h
   · rename_i s hs
     obtain ⟨u, h1, h2⟩ := awT h
     exact ⟨u, by simp only [CP, hs]; exact h1, h2⟩
   · cases h
theorem aBJ {i b n l : Nat} {fn : iw} {ps : List cm} {X R : cm} {aY : List V} {HR : au} {r : V × Heap × Nat} (hc : ad i = some (.code fn)) (hb : fn.body = DN ps (.seq (.block b (.loop X)) R))
  (h1 : CP (cu ad n) n (ps ++ List.replicate l X) ⟨[], iP 0 aY, [], 0, none⟩ = some HR)
  (h2 : jl (fun _ _ => Abs.exec (cu ad n) n (.seq (.block b (.loop X)) R) HR) fn aY [] = some r) : ∃ n, cu ad n (.fn i [] []) aY [] = some r := by
 rw [<- tx, sf, hc]
 obtain ⟨s, q1, aS⟩ := awT h1
 have he : dO ad fn.body ⟨[], iP 0 aY, [], 0, none⟩ = dO ad (.seq (.block b (.loop X)) R) HR := by rw [hb, awR q1, awS aS]
 have av := PV (ex' := fun _ _ => dO ad (.seq (.block b (.loop X)) R) HR) (fun c st r h => fS.2 ⟨n, h⟩) h2
 show jl (dO ad) fn ([] ++ aY ++ []) [] = _
 rw [oZ, vh, <- av]
 unfold jl
 rw [show (([] : Heap).length) = 0 from rfl, he]
end Go.Abs
