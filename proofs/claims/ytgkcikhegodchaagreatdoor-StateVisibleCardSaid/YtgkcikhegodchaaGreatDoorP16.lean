/- Texts of this claim, joined and written short by a program. -/
import Derived.Test.YtgkcikhegodchaaGreatDoorP15
import Derived.Test.YtgkcikhegodchaaGreatDoorP00
set_option linter.unusedVariables false
set_option linter.unusedSimpArgs false
set_option linter.unusedSectionVars false
set_option maxRecDepth 100000
namespace Go.Abs.bA
open Go Go.Abs Go.Proofs
noncomputable section
variable (g:Nat->Option Obj)
def aba:List V:=[V7]
def abb:V:=.aF [x2,.cu,aj 0]
theorem ano:bN (Kv g) 200 (.fn 50 [] []) aba []=some (abb,[],0):=by kernel_rfl
def abc:List (List V × V):=[(aba,abb)]
theorem anp:jJ (Kv g) 200 50 abc:=⟨⟨by kernel_rfl,ano g⟩,trivial⟩
def Kw:Nat->Option cc:=over (Kv g) 50 (jI abc)
end
end Go.Abs.bA
