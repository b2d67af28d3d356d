/- Texts of this claim, joined and written short by a program. -/
import Derived.Test.YtaenhebjdjpdgaaGreatDoorP12
import Derived.Test.YtaenhebjdjpdgaaGreatDoorP00
set_option linter.unusedVariables false
set_option linter.unusedSimpArgs false
set_option linter.unusedSectionVars false
set_option maxRecDepth 100000
namespace Go.Abs.b1
open Go Go.Abs Go.Proofs
noncomputable section
variable (g : Nat -> Option Obj)
def S5 : List V := [.str [50]]
def S6 : V := aq 3
theorem aem : cu (ru g) 200 (.fn 39 [] []) S5 [] = some (S6, [], 0) := by kernel_rfl
def S7 : List V := [.str [48]]
def S8 : V := aq 3
theorem aen : cu (ru g) 200 (.fn 39 [] []) S7 [] = some (S8, [], 0) := by kernel_rfl
def S9 : List V := [.str [115]]
def Ta : V := aq 1
theorem aeo : cu (ru g) 200 (.fn 39 [] []) S9 [] = some (Ta, [], 0) := by kernel_rfl
def Tb : List V := [.str [114]]
def Tc : V := aq 1
theorem aep : cu (ru g) 200 (.fn 39 [] []) Tb [] = some (Tc, [], 0) := by kernel_rfl
def Td : List V := [.str [97]]
def Te : V := aq 1
theorem aeq : cu (ru g) 200 (.fn 39 [] []) Td [] = some (Te, [], 0) := by kernel_rfl
def Tf : List V := [.str [111]]
def Tg : V := aq 1
theorem aer : cu (ru g) 200 (.fn 39 [] []) Tf [] = some (Tg, [], 0) := by kernel_rfl
def Th : List V := [.str [112]]
def Ti : V := aq 1
theorem aes : cu (ru g) 200 (.fn 39 [] []) Th [] = some (Ti, [], 0) := by kernel_rfl
def Tj : List V := [.str [49]]
def Tk : V := aq 3
theorem aet : cu (ru g) 200 (.fn 39 [] []) Tj [] = some (Tk, [], 0) := by kernel_rfl
def Tl : List (List V × V) := [(S5, S6), (S7, S8), (S9, Ta), (Tb, Tc), (Td, Te), (Tf, Tg), (Th, Ti), (Tj, Tk)]
theorem aeu : iS (ru g) 200 39 Tl := ⟨⟨by kernel_rfl, aem g⟩, ⟨⟨by kernel_rfl, aen g⟩, ⟨⟨by kernel_rfl, aeo g⟩, ⟨⟨by kernel_rfl, aep g⟩, ⟨⟨by kernel_rfl, aeq g⟩, ⟨⟨by kernel_rfl, aer g⟩, ⟨⟨by kernel_rfl, aes g⟩, ⟨⟨by kernel_rfl, aet g⟩, trivial⟩⟩⟩⟩⟩⟩⟩⟩
def GA : Nat -> Option ca := over (ru g) 39 (iR Tl)
def Tm : List V := [tA]
def Tn : V := .bool true
theorem aev : cu (GA g) 200 (.fn 104 [] []) Tm [] = some (Tn, [], 0) := by kernel_rfl
def To : List (List V × V) := [(Tm, Tn)]
theorem aew : iS (GA g) 200 104 To := ⟨⟨by kernel_rfl, aev g⟩, trivial⟩
def GC : Nat -> Option ca := over (GA g) 104 (iR To)
end
end Go.Abs.b1
