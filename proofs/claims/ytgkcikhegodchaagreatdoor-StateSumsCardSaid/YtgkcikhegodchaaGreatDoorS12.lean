/- Texts of this claim, joined and written short by a program. -/
import Derived.Test.YtgkcikhegodchaaGreatDoorS11
import Derived.Test.YtgkcikhegodchaaGreatDoorS00
set_option linter.unusedVariables false
set_option linter.unusedSimpArgs false
set_option linter.unusedSectionVars false
set_option maxRecDepth 100000
namespace Go.Abs.bs
open Go Go.Abs Go.Proofs
noncomputable section
variable (g:Nat->Option Obj)
def XC:List V:=[xp]
def XD:V:=.bool true
theorem akw:bD (I7 g) 200 (.fn 103 [] []) XC []=some (XD,[],0):=by kernel_rfl
def XE:List (List V × V):=[(XC,XD)]
theorem akx:jz (I7 g) 200 103 XE:=⟨⟨by kernel_rfl,akw g⟩,trivial⟩
def I8:Nat->Option bV:=over (I7 g) 103 (jy XE)
end
end Go.Abs.bs
set_option maxRecDepth 100000
namespace Go.Abs.bs
open Go Go.Abs Go.Proofs
noncomputable section
variable (g:Nat->Option Obj)
def XF:List V:=[xp]
def XG:V:=.aU [.agg [.list 4 [.agg [ak 0,.str [115],ak 1,ak (-1)],.agg [ak 1,.str [114],ak 3,ak (-1)],.agg [ak 4,.str [97],ak 5,ak 3],.agg [ak 1,.str [99],ak 7,ak (-1)],.agg [ak 2,.str [105],ak 12,ak (-1)],.agg [ak 5,.str [120],ak 19,ak 12]],.list 1 [ak (-1),ak 0,ak (-1),ak 1,ak (-1),ak 2,ak 0,ak 3,ak (-1),ak (-1),ak (-1),ak (-1),ak 4,ak (-1),ak (-1),ak (-1),ak (-1),ak (-1),ak (-1),ak 5,ak 0,ak 1,ak 5,ak (-1),ak (-1),ak (-1),ak 3,ak (-1),ak (-1)]],.bX,ak 0]
theorem aky:bD (I8 g) 200 (.fn 107 [] []) XF []=some (XG,[],0):=by kernel_rfl
def XH:List (List V × V):=[(XF,XG)]
theorem akz:jz (I8 g) 200 107 XH:=⟨⟨by kernel_rfl,aky g⟩,trivial⟩
def I9:Nat->Option bV:=over (I8 g) 107 (jy XH)
end
end Go.Abs.bs
