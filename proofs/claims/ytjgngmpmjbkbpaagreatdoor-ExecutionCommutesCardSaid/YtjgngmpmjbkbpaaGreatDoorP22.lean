/- Texts of this claim, joined and written short by a program. -/
import Derived.Test.YtjgngmpmjbkbpaaGreatDoorP21
import Derived.Test.YtjgngmpmjbkbpaaGreatDoorP00
set_option linter.unusedVariables false
set_option linter.unusedSimpArgs false
set_option linter.unusedSectionVars false
set_option maxRecDepth 100000
namespace Go.Abs.U
open Go Go.Abs Go.Proofs
noncomputable section
variable (g : Nat -> Option Obj)
def awY : List V := [wc]
def awZ : V := .bool true
theorem aBQ : cu (CS g) 200 (.fn 64 [] []) awY [] = some (awZ, [], 0) := by kernel_rfl
def m64 : List (List V × V) := [(awY, awZ)]
theorem aBR : iS (CS g) 200 64 m64 := ⟨⟨by kernel_rfl, aBQ g⟩, trivial⟩
def GL : Nat -> Option ca := over (CS g) 64 (iR m64)
def aw0 : List V := [wc]
def aw1 : V := .ba [Ye, aq 0]
theorem aBS : cu (GL g) 200 (.fn 29 [] []) aw0 [] = some (aw1, [], 0) := by kernel_rfl
def aw2 : List (List V × V) := [(aw0, aw1)]
theorem aBT : iS (GL g) 200 29 aw2 := ⟨⟨by kernel_rfl, aBS g⟩, trivial⟩
def Mg : Nat -> Option ca := over (GL g) 29 (iR aw2)
def aw3 : List V := [wc, Qd, .list 5 [.agg [.str [112], aq 0, aq 0, aq 0, aq 0]]]
def aw4 : V := .bool true
theorem aBU : cu (Mg g) 200 (.fn 167 [] []) aw3 [] = some (aw4, [], 0) := by kernel_rfl
def aw5 : List V := [wc, Qd, .list 5 [.agg [.str [112], aq 0, aq 0, aq 0, aq 1]]]
def aw6 : V := .bool true
theorem aBV : cu (Mg g) 200 (.fn 167 [] []) aw5 [] = some (aw6, [], 0) := by kernel_rfl
def aw7 : List V := [wc, ZH, .c0]
def aw8 : V := .bool true
theorem aBW : cu (Mg g) 200 (.fn 167 [] []) aw7 [] = some (aw8, [], 0) := by kernel_rfl
def aw9 : List (List V × V) := [(aw3, aw4), (aw5, aw6), (aw7, aw8)]
theorem aBX : iS (Mg g) 200 167 aw9 := ⟨⟨by kernel_rfl, aBU g⟩, ⟨⟨by kernel_rfl, aBV g⟩, ⟨⟨by kernel_rfl, aBW g⟩, trivial⟩⟩⟩
def GM : Nat -> Option ca := over (Mg g) 167 (iR aw9)
def axa : List V := [wc, aq 0]
def axb : V := .list 1 [.list 1 [aq 0], .list 1 [aq 1]]
theorem aBY : cu (GM g) 200 (.fn 34 [] []) axa [] = some (axb, [], 0) := by kernel_rfl
def axc : List V := [wc, aq 1]
def axd : V := .list 1 [.c0]
theorem aBZ : cu (GM g) 200 (.fn 34 [] []) axc [] = some (axd, [], 0) := by kernel_rfl
def axe : List (List V × V) := [(axa, axb), (axc, axd)]
theorem aB0 : iS (GM g) 200 34 axe := ⟨⟨by kernel_rfl, aBY g⟩, ⟨⟨by kernel_rfl, aBZ g⟩, trivial⟩⟩
def GN : Nat -> Option ca := over (GM g) 34 (iR axe)
theorem afg : ag9.iS (cu (GN g) 200) 200 Tryz.f35.ntmps Qp := ⟨⟨by kernel_rfl, by kernel_rfl, by kernel_rfl⟩, ⟨⟨by kernel_rfl, by kernel_rfl, by kernel_rfl⟩, ⟨⟨by kernel_rfl, by kernel_rfl, by kernel_rfl⟩, trivial⟩⟩⟩
def GO : Nat -> Option ca := over (GN g) 35 (iR Qp)
def axf : List V := [.list 1 [aq 2], Qn]
def axg : V := .bool true
theorem aB1 : cu (GO g) 200 (.fn 89 [] []) axf [] = some (axg, [], 0) := by kernel_rfl
def axh : List (List V × V) := [(axf, axg)]
theorem aB2 : iS (GO g) 200 89 axh := ⟨⟨by kernel_rfl, aB1 g⟩, trivial⟩
def Mh : Nat -> Option ca := over (GO g) 89 (iR axh)
def axi : List V := [wc]
def axj : V := .ba [nf, aq 0]
theorem aB3 : cu (Mh g) 200 (.fn 11 [] []) axi [] = some (axj, [], 0) := by kernel_rfl
def m11 : List (List V × V) := [(axi, axj)]
theorem aB4 : iS (Mh g) 200 11 m11 := ⟨⟨by kernel_rfl, aB3 g⟩, trivial⟩
def HT : Nat -> Option ca := over (Mh g) 11 (iR m11)
def axk : List V := [nf]
def axl : V := .bool true
theorem aB5 : cu (HT g) 200 (.fn 38 [] []) axk [] = some (axl, [], 0) := by kernel_rfl
def axm : List (List V × V) := [(axk, axl)]
theorem aB6 : iS (HT g) 200 38 axm := ⟨⟨by kernel_rfl, aB5 g⟩, trivial⟩
def gr : Nat -> Option ca := over (HT g) 38 (iR axm)
end
end Go.Abs.U
