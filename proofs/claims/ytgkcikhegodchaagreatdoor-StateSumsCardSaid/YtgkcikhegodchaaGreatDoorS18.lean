/- Texts of this claim, joined and written short by a program. -/
import Derived.Test.YtgkcikhegodchaaGreatDoorS17
import Derived.Test.YtgkcikhegodchaaGreatDoorS00
set_option linter.unusedVariables false
set_option linter.unusedSimpArgs false
set_option linter.unusedSectionVars false
set_option maxRecDepth 100000
namespace Go.Abs.bs
open Go Go.Abs Go.Proofs
noncomputable section
variable (g:Nat->Option Obj)
def YV:List V:=[.list 1 [ak 2],MD]
def YW:V:=.bool true
theorem alf:bD (Jf g) 200 (.fn 35 [] []) YV []=some (YW,[],0):=by kernel_rfl
def YX:List (List V × V):=[(YV,YW)]
theorem alg:jz (Jf g) 200 35 YX:=⟨⟨by kernel_rfl,alf g⟩,trivial⟩
def Jg:Nat->Option bV:=over (Jf g) 35 (jy YX)
def YY:List V:=[H9]
def YZ:V:=.aU [Bu,ak 0]
theorem alh:bD (Jg g) 200 (.fn 24 [] []) YY []=some (YZ,[],0):=by kernel_rfl
def m24:List (List V × V):=[(YY,YZ)]
theorem ali:jz (Jg g) 200 24 m24:=⟨⟨by kernel_rfl,alh g⟩,trivial⟩
def Jh:Nat->Option bV:=over (Jg g) 24 (jy m24)
def Y0:List V:=[Bu]
def Y1:V:=.bool true
theorem alj:bD (Jh g) 200 (.fn 11 [] []) Y0 []=some (Y1,[],0):=by kernel_rfl
def m11:List (List V × V):=[(Y0,Y1)]
theorem alk:jz (Jh g) 200 11 m11:=⟨⟨by kernel_rfl,alj g⟩,trivial⟩
def Ji:Nat->Option bV:=over (Jh g) 11 (jy m11)
def Y2:List V:=[TM]
def Y3:V:=.list 1 [.str [99],.str [40],.str [41],.str [61],.str [50],.str [59],.str [114],.str [40],.str [48],.str [41],.str [61],.str [49],.str [59]]
theorem alm:bD (Ji g) 200 (.fn 65 [] []) Y2 []=some (Y3,[],0):=by kernel_rfl
def Y4:List (List V × V):=[(Y2,Y3)]
theorem aln:jz (Ji g) 200 65 Y4:=⟨⟨by kernel_rfl,alm g⟩,trivial⟩
def n1:Nat->Option bV:=over (Ji g) 65 (jy Y4)
end
end Go.Abs.bs
