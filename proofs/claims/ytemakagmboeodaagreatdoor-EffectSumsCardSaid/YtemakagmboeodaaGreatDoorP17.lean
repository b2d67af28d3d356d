/- Texts of this claim, joined and written short by a program. -/
import Derived.Test.YtemakagmboeodaaGreatDoorP16
import Derived.Test.YtemakagmboeodaaGreatDoorP00
set_option linter.unusedVariables false
set_option linter.unusedSimpArgs false
set_option linter.unusedSectionVars false
set_option maxRecDepth 100000
namespace Go.Abs.cb
open Go Go.Abs Go.Proofs
noncomputable section
variable (g:Nat->Option Obj)
def QE:List V:=[.agg [J 36,.str [49],J 151,J 152,.ak],.list 5 [.agg [.str [112],J 0,J 0,J 0,J 0]],.list 2 [.agg [.str [115],J 2]]]
def QF:V:=.aR [J 1,J 0]
theorem abH:aS (oG g) 200 (.fn 128 [] []) QE []=some (QF,[],0):=by kernel_rfl
def QG:List V:=[.agg [J 36,.str [49],J 151,J 152,.ak],.list 5 [.agg [.str [112],J 0,J 0,J 0,J 1]],.list 2 [.agg [.str [115],J 2]]]
def QH:V:=.aR [J 1,J 0]
theorem abI:aS (oG g) 200 (.fn 128 [] []) QG []=some (QH,[],0):=by kernel_rfl
def QI:List V:=[.agg [J 36,.str [50],J 114,J 115,.ak],.list 5 [.agg [.str [112],J 0,J 0,J 0,J 0],.agg [.str [120],J 0,J 0,J 0,J 1]],.list 2 [.agg [.str [115],J 2]]]
def QJ:V:=.aR [J 2,J 0]
theorem abJ:aS (oG g) 200 (.fn 128 [] []) QI []=some (QJ,[],0):=by kernel_rfl
def QK:List V:=[.agg [J 36,.str [50],J 114,J 115,.ak],.list 5 [.agg [.str [112],J 0,J 0,J 0,J 1],.agg [.str [120],J 0,J 0,J 0,J 0]],.list 2 [.agg [.str [115],J 2]]]
def QL:V:=.aR [J 2,J 0]
theorem abK:aS (oG g) 200 (.fn 128 [] []) QK []=some (QL,[],0):=by kernel_rfl
def QM:List V:=[.agg [J 40,.str [33,61],J 101,J 107,.list 5 [.agg [J 35,.str [120],J 101,J 102,.ak],.agg [J 35,.str [112],J 106,J 107,.ak]]],.list 5 [.agg [.str [112],J 0,J 0,J 0,J 0],.agg [.str [120],J 0,J 0,J 0,J 0]],.list 2 [.agg [.str [115],J 2]]]
def QN:V:=.aR [J 0,J 0]
theorem abL:aS (oG g) 200 (.fn 128 [] []) QM []=some (QN,[],0):=by kernel_rfl
def QO:List V:=[.agg [J 40,.str [33,61],J 101,J 107,.list 5 [.agg [J 35,.str [120],J 101,J 102,.ak],.agg [J 35,.str [112],J 106,J 107,.ak]]],.list 5 [.agg [.str [112],J 0,J 0,J 0,J 0],.agg [.str [120],J 0,J 0,J 0,J 1]],.list 2 [.agg [.str [115],J 2]]]
def QP:V:=.aR [J 1,J 0]
theorem abM:aS (oG g) 200 (.fn 128 [] []) QO []=some (QP,[],0):=by kernel_rfl
def QQ:List V:=[.agg [J 40,.str [33,61],J 101,J 107,.list 5 [.agg [J 35,.str [120],J 101,J 102,.ak],.agg [J 35,.str [112],J 106,J 107,.ak]]],.list 5 [.agg [.str [112],J 0,J 0,J 0,J 1],.agg [.str [120],J 0,J 0,J 0,J 0]],.list 2 [.agg [.str [115],J 2]]]
def QR:V:=.aR [J 1,J 0]
theorem abN:aS (oG g) 200 (.fn 128 [] []) QQ []=some (QR,[],0):=by kernel_rfl
def QS:List V:=[.agg [J 40,.str [33,61],J 101,J 107,.list 5 [.agg [J 35,.str [120],J 101,J 102,.ak],.agg [J 35,.str [112],J 106,J 107,.ak]]],.list 5 [.agg [.str [112],J 0,J 0,J 0,J 1],.agg [.str [120],J 0,J 0,J 0,J 1]],.list 2 [.agg [.str [115],J 2]]]
def QT:V:=.aR [J 0,J 0]
theorem abO:aS (oG g) 200 (.fn 128 [] []) QS []=some (QT,[],0):=by kernel_rfl
def QU:List (List V × V):=[(QE,QF),(QG,QH),(QI,QJ),(QK,QL),(QM,QN),(QO,QP),(QQ,QR),(QS,QT)]
theorem abP:iS (oG g) 200 128 QU:=⟨⟨by kernel_rfl,abH g⟩,⟨⟨by kernel_rfl,abI g⟩,⟨⟨by kernel_rfl,abJ g⟩,⟨⟨by kernel_rfl,abK g⟩,⟨⟨by kernel_rfl,abL g⟩,⟨⟨by kernel_rfl,abM g⟩,⟨⟨by kernel_rfl,abN g⟩,⟨⟨by kernel_rfl,abO g⟩,trivial⟩⟩⟩⟩⟩⟩⟩⟩
def yR:Nat->Option bQ:=over (oG g) 128 (iR QU)
theorem abQ:Bl.ok (aS (yR g) 200) 200 [xC,J 0,.list 1 [J 0]] (.aR [.agg [Ao,.list 2 [.agg [.list 2 [Aq],J (-1)]],.ak],J 0])=true:=by kernel_rfl
end
end Go.Abs.cb
