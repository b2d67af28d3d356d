/- Texts of this claim, joined and written short by a program. -/
import Derived.Test.YtaenhebjdjpdgaaGreatDoorP13
import Derived.Test.YtaenhebjdjpdgaaGreatDoorP00
set_option linter.unusedVariables false
set_option linter.unusedSimpArgs false
set_option linter.unusedSectionVars false
set_option maxRecDepth 100000
namespace Go.Abs.b1
open Go Go.Abs Go.Proofs
noncomputable section
variable (g : Nat -> Option Obj)
def Tp : List V := [tA]
def Tq : V := .ba [.agg [.list 4 [.agg [aq 0, .str [115], aq 1, aq (-1)], .agg [aq 1, .str [114], aq 3, aq (-1)], .agg [aq 4, .str [97], aq 5, aq 3], .agg [aq 3, .str [111], aq 7, aq (-1)], .agg [aq 6, .str [112], aq 9, aq 7]], .list 1 [aq (-1), aq 0, aq (-1), aq 1, aq (-1), aq 2, aq 0, aq 3, aq (-1), aq 4, aq 0, aq (-1), aq (-1), aq (-1), aq (-1), aq 4, aq (-1), aq (-1), aq 1, aq 4]], .c0, aq 0]
theorem aex : cu (GC g) 200 (.fn 108 [] []) Tp [] = some (Tq, [], 0) := by kernel_rfl
def Tr : List (List V × V) := [(Tp, Tq)]
theorem aey : iS (GC g) 200 108 Tr := ⟨⟨by kernel_rfl, aex g⟩, trivial⟩
def GD : Nat -> Option ca := over (GC g) 108 (iR Tr)
def Ts : List V := [tA, aq 14]
def Tt : V := .list 1 [aq 4]
theorem aez : cu (GD g) 200 (.fn 305 [] []) Ts [] = some (Tt, [], 0) := by kernel_rfl
def Tu : List (List V × V) := [(Ts, Tt)]
theorem aeA : iS (GD g) 200 305 Tu := ⟨⟨by kernel_rfl, aez g⟩, trivial⟩
def CR : Nat -> Option ca := over (GD g) 305 (iR Tu)
end
end Go.Abs.b1
