/- Texts of this claim, joined and written short by a program. -/
import Derived.Test.YtgkcikhegodchaaGreatDoorP11
import Derived.Test.YtgkcikhegodchaaGreatDoorP00
set_option linter.unusedVariables false
set_option linter.unusedSimpArgs false
set_option linter.unusedSectionVars false
set_option maxRecDepth 100000
namespace Go.Abs.bA
open Go Go.Abs Go.Proofs
noncomputable section
variable (g:Nat->Option Obj)
def Z0:List V:=[x2]
def Z1:V:=.bool true
theorem amK:bN (Kq g) 200 (.fn 103 [] []) Z0 []=some (Z1,[],0):=by kernel_rfl
def Z2:List (List V × V):=[(Z0,Z1)]
theorem amL:jJ (Kq g) 200 103 Z2:=⟨⟨by kernel_rfl,amK g⟩,trivial⟩
def Kr:Nat->Option cc:=over (Kq g) 103 (jI Z2)
end
end Go.Abs.bA
set_option maxRecDepth 100000
namespace Go.Abs.bA
open Go Go.Abs Go.Proofs
noncomputable section
variable (g:Nat->Option Obj)
def Z3:List V:=[x2]
def Z4:V:=.aF [.agg [.list 4 [.agg [aj 0,.str [115],aj 1,aj (-1)],.agg [aj 1,.str [114],aj 3,aj (-1)],.agg [aj 4,.str [97],aj 5,aj 3],.agg [aj 1,.str [99],aj 7,aj (-1)],.agg [aj 2,.str [105],aj 12,aj (-1)],.agg [aj 5,.str [120],aj 19,aj 12]],.list 1 [aj (-1),aj 0,aj (-1),aj 1,aj (-1),aj 2,aj 0,aj 3,aj (-1),aj (-1),aj (-1),aj (-1),aj 4,aj (-1),aj (-1),aj (-1),aj (-1),aj (-1),aj (-1),aj 5,aj 0,aj 1,aj 5,aj (-1),aj (-1),aj (-1),aj 3,aj (-1),aj (-1)]],.cu,aj 0]
theorem amM:bN (Kr g) 200 (.fn 107 [] []) Z3 []=some (Z4,[],0):=by kernel_rfl
def Z5:List (List V × V):=[(Z3,Z4)]
theorem amN:jJ (Kr g) 200 107 Z5:=⟨⟨by kernel_rfl,amM g⟩,trivial⟩
def Ks:Nat->Option cc:=over (Kr g) 107 (jI Z5)
end
end Go.Abs.bA
