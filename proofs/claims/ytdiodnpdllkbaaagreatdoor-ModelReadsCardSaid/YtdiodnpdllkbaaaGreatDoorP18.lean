/- Texts of this claim, joined and written short by a program. -/
import Derived.Test.YtdiodnpdllkbaaaGreatDoorP17
import Derived.Test.YtdiodnpdllkbaaaGreatDoorP00
set_option linter.unusedVariables false
set_option linter.unusedSimpArgs false
set_option linter.unusedSectionVars false
set_option maxRecDepth 100000
namespace Go.Abs.bw
open Go Go.Abs Go.Proofs
noncomputable section
variable (g:Nat->Option Obj)
def Vr:List V:=[Ro]
def Vs:V:=.aU [uq,.cp,au 0]
theorem ag0:cu (Hm g) 200 (.fn 41 [] []) Vr []=some (Vs,[],0):=by kernel_rfl
def Vt:List (List V × V):=[(Vr,Vs)]
theorem ag1:jf (Hm g) 200 41 Vt:=⟨⟨by kernel_rfl,ag0 g⟩,trivial⟩
def Hn:Nat->Option bY:=over (Hm g) 41 (je Vt)
end
end Go.Abs.bw
