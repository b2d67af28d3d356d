/- Texts of this claim, joined and written short by a program. -/
import Derived.Test.YtdiodnpdllkbaaaGreatDoorP15
import Derived.Test.YtdiodnpdllkbaaaGreatDoorP00
set_option linter.unusedVariables false
set_option linter.unusedSimpArgs false
set_option linter.unusedSectionVars false
set_option maxRecDepth 100000
namespace Go.Abs.bw
open Go Go.Abs Go.Proofs
noncomputable section
variable (g:Nat->Option Obj)
def Vl:List V:=[uq]
def Vm:V:=.aU [wv,.cp,au 0]
theorem agW:cu (Hk g) 200 (.fn 42 [] []) Vl []=some (Vm,[],0):=by kernel_rfl
def Vn:List (List V × V):=[(Vl,Vm)]
theorem agX:jf (Hk g) 200 42 Vn:=⟨⟨by kernel_rfl,agW g⟩,trivial⟩
def Hl:Nat->Option bY:=over (Hk g) 42 (je Vn)
end
end Go.Abs.bw
