/- Texts of this claim, joined and written short by a program. -/
import Derived.Test.YtaenhebjdjpdgaaGreatDoorP18
import Derived.Test.YtaenhebjdjpdgaaGreatDoorP00
set_option linter.unusedVariables false
set_option linter.unusedSimpArgs false
set_option linter.unusedSectionVars false
set_option maxRecDepth 100000
namespace Go.Abs.b1
open Go Go.Abs Go.Proofs
noncomputable section
variable (g : Nat -> Option Obj)
def Us : List V := [vv]
def Ut : V := .bool true
theorem ae7 : cu (GJ g) 200 (.fn 112 [] []) Us [] = some (Ut, [], 0) := by kernel_rfl
def Uu : List (List V × V) := [(Us, Ut)]
theorem ae8 : iS (GJ g) 200 112 Uu := ⟨⟨by kernel_rfl, ae7 g⟩, trivial⟩
def GK : Nat -> Option ca := over (GJ g) 112 (iR Uu)
def Uv : List V := [vv]
def Uw : V := .ba [Qm, aq 0]
theorem ae9 : cu (GK g) 200 (.fn 52 [] []) Uv [] = some (Uw, [], 0) := by kernel_rfl
def Ux : List (List V × V) := [(Uv, Uw)]
theorem afa : iS (GK g) 200 52 Ux := ⟨⟨by kernel_rfl, ae9 g⟩, trivial⟩
def CS : Nat -> Option ca := over (GK g) 52 (iR Ux)
def Uy : List V := [vv, Fy, Qi]
def Uz : V := .bool false
theorem afb : cu (CS g) 200 (.fn 225 [] []) Uy [] = some (Uz, [], 0) := by kernel_rfl
def UA : List V := [vv, Fy, Qk]
def UB : V := .bool true
theorem afc : cu (CS g) 200 (.fn 225 [] []) UA [] = some (UB, [], 0) := by kernel_rfl
def UC : List (List V × V) := [(Uy, Uz), (UA, UB)]
theorem afd : iS (CS g) 200 225 UC := ⟨⟨by kernel_rfl, afb g⟩, ⟨⟨by kernel_rfl, afc g⟩, trivial⟩⟩
def GL : Nat -> Option ca := over (CS g) 225 (iR UC)
def UD : List V := [vv, aq 0]
def UE : V := .list 1 [.list 1 [aq 1]]
theorem afe : cu (GL g) 200 (.fn 57 [] []) UD [] = some (UE, [], 0) := by kernel_rfl
def UF : List (List V × V) := [(UD, UE)]
theorem aff : iS (GL g) 200 57 UF := ⟨⟨by kernel_rfl, afe g⟩, trivial⟩
def Mg : Nat -> Option ca := over (GL g) 57 (iR UF)
end
end Go.Abs.b1
