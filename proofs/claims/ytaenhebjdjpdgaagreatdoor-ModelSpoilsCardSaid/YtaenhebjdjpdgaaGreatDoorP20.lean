/- Texts of this claim, joined and written short by a program. -/
import Derived.Test.YtaenhebjdjpdgaaGreatDoorP19
import Derived.Test.YtaenhebjdjpdgaaGreatDoorP00
set_option linter.unusedVariables false
set_option linter.unusedSimpArgs false
set_option linter.unusedSectionVars false
set_option maxRecDepth 100000
namespace Go.Abs.b1
open Go Go.Abs Go.Proofs
noncomputable section
variable (g : Nat -> Option Obj)
theorem afg : S4.iS (cu (Mg g) 200) 200 Tryz.f58.ntmps Qp := ⟨⟨by kernel_rfl, by kernel_rfl, by kernel_rfl⟩, trivial⟩
def GM : Nat -> Option ca := over (Mg g) 58 (iR Qp)
def UG : List V := [.list 1 [aq 2], J8]
def UH : V := .bool true
theorem afh : cu (GM g) 200 (.fn 25 [] []) UG [] = some (UH, [], 0) := by kernel_rfl
def UI : List (List V × V) := [(UG, UH)]
theorem afi : iS (GM g) 200 25 UI := ⟨⟨by kernel_rfl, afh g⟩, trivial⟩
def GN : Nat -> Option ca := over (GM g) 25 (iR UI)
def UJ : List V := [vv]
def UK : V := .ba [Qn, aq 0]
theorem afj : cu (GN g) 200 (.fn 21 [] []) UJ [] = some (UK, [], 0) := by kernel_rfl
def m21 : List (List V × V) := [(UJ, UK)]
theorem afk : iS (GN g) 200 21 m21 := ⟨⟨by kernel_rfl, afj g⟩, trivial⟩
def GO : Nat -> Option ca := over (GN g) 21 (iR m21)
def UL : List V := [Qn]
def UM : V := .bool true
theorem afl : cu (GO g) 200 (.fn 7 [] []) UL [] = some (UM, [], 0) := by kernel_rfl
def m7 : List (List V × V) := [(UL, UM)]
theorem afm : iS (GO g) 200 7 m7 := ⟨⟨by kernel_rfl, afl g⟩, trivial⟩
def Mh : Nat -> Option ca := over (GO g) 7 (iR m7)
theorem afn : cu (Mh g) 200 (.fn 5 [] []) [] [] = some (.bool true, [], 0) := by kernel_rfl
end
end Go.Abs.b1
