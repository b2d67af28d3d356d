/- Texts of this claim, joined and written short by a program. -/
import Derived.Test.YtgkcikhegodchaaGreatDoorP14
import Derived.Test.YtgkcikhegodchaaGreatDoorP00
set_option linter.unusedVariables false
set_option linter.unusedSimpArgs false
set_option linter.unusedSectionVars false
set_option maxRecDepth 100000
namespace Go.Abs.bA
open Go Go.Abs Go.Proofs
noncomputable section
variable (g:Nat->Option Obj)
def aa7:List V:=[V7]
def aa8:V:=.aF [.list 4 [.agg [aj 2,aj 0,aj 0,aj 4],.agg [aj 1,aj 4,aj 5,aj 6],.agg [aj 3,aj 6,aj 7,aj 8],.agg [aj 4,aj 8,aj 8,aj 9],.agg [aj 2,aj 9,aj 10,aj 18],.agg [aj 1,aj 18,aj 19,aj 20],.agg [aj 4,aj 20,aj 20,aj 21],.agg [aj 1,aj 21,aj 21,aj 22],.agg [aj 4,aj 22,aj 22,aj 23],.agg [aj 1,aj 23,aj 24,aj 25],.agg [aj 4,aj 25,aj 25,aj 26],.agg [aj 4,aj 26,aj 26,aj 27],.agg [aj 2,aj 27,aj 28,aj 35],.agg [aj 1,aj 35,aj 36,aj 37],.agg [aj 4,aj 37,aj 37,aj 38],.agg [aj 4,aj 38,aj 38,aj 39],.agg [aj 2,aj 39,aj 40,aj 42],.agg [aj 3,aj 42,aj 43,aj 44],.agg [aj 4,aj 44,aj 44,aj 46],.agg [aj 3,aj 46,aj 46,aj 47],.agg [aj 4,aj 47,aj 47,aj 48],.agg [aj 2,aj 48,aj 49,aj 58],.agg [aj 1,aj 58,aj 59,aj 60],.agg [aj 4,aj 60,aj 60,aj 61],.agg [aj 2,aj 61,aj 62,aj 65],.agg [aj 4,aj 65,aj 65,aj 66],.agg [aj 4,aj 66,aj 66,aj 67],.agg [aj 2,aj 67,aj 68,aj 71],.agg [aj 4,aj 71,aj 71,aj 72],.agg [aj 1,aj 72,aj 72,aj 73],.agg [aj 4,aj 73,aj 73,aj 74],.agg [aj 1,aj 74,aj 75,aj 76],.agg [aj 4,aj 76,aj 76,aj 77],.agg [aj 1,aj 77,aj 78,aj 79],.agg [aj 4,aj 79,aj 79,aj 80],.agg [aj 1,aj 80,aj 80,aj 81],.agg [aj 4,aj 81,aj 81,aj 82],.agg [aj 4,aj 82,aj 83,aj 84],.agg [aj 1,aj 84,aj 85,aj 86],.agg [aj 4,aj 86,aj 86,aj 87],.agg [aj 4,aj 87,aj 87,aj 88],.agg [aj 4,aj 88,aj 89,aj 91],.agg [aj 3,aj 91,aj 92,aj 93],.agg [aj 4,aj 93,aj 93,aj 94],.agg [aj 0,aj 94,aj 94,aj 94]],aj 0]
theorem anm:bN (Ku g) 200 (.fn 169 [] []) aa7 []=some (aa8,[],0):=by kernel_rfl
def aa9:List (List V × V):=[(aa7,aa8)]
theorem ann:jJ (Ku g) 200 169 aa9:=⟨⟨by kernel_rfl,anm g⟩,trivial⟩
def Kv:Nat->Option cc:=over (Ku g) 169 (jI aa9)
end
end Go.Abs.bA
