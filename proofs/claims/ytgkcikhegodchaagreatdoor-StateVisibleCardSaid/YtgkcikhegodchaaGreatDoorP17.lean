/- Texts of this claim, joined and written short by a program. -/
import Derived.Test.YtgkcikhegodchaaGreatDoorP16
import Derived.Test.YtgkcikhegodchaaGreatDoorP00
set_option linter.unusedVariables false
set_option linter.unusedSimpArgs false
set_option linter.unusedSectionVars false
set_option maxRecDepth 100000
namespace Go.Abs.bA
open Go Go.Abs Go.Proofs
noncomputable section
variable (g:Nat->Option Obj)
def abd:List V:=[Jw]
def abe:V:=.bool true
theorem anq:bN (Kw g) 200 (.fn 111 [] []) abd []=some (abe,[],0):=by kernel_rfl
def abf:List (List V × V):=[(abd,abe)]
theorem anr:jJ (Kw g) 200 111 abf:=⟨⟨by kernel_rfl,anq g⟩,trivial⟩
def Kx:Nat->Option cc:=over (Kw g) 111 (jI abf)
def abg:List V:=[Jw]
def abh:V:=.aF [Wb,aj 0]
theorem ans:bN (Kx g) 200 (.fn 52 [] []) abg []=some (abh,[],0):=by kernel_rfl
def abj:List (List V × V):=[(abg,abh)]
theorem ant:jJ (Kx g) 200 52 abj:=⟨⟨by kernel_rfl,ans g⟩,trivial⟩
def Ky:Nat->Option cc:=over (Kx g) 52 (jI abj)
end
end Go.Abs.bA
