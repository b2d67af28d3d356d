/- Texts of this claim, joined and written short by a program. -/
import Derived.Test.YteocalfeoefeoaaGreatDoorP17
import Derived.Test.YteocalfeoefeoaaGreatDoorP00
set_option linter.unusedVariables false
set_option linter.unusedSimpArgs false
set_option linter.unusedSectionVars false
set_option maxRecDepth 100000
namespace Go.Abs.mN
open Go Go.Abs Go.Proofs
noncomputable section
variable (g:Nat->Option Obj)
theorem ahb:Ve.jf (cu (ML g) 200) 200 Tryz.f51.ntmps Rs:=⟨⟨by kernel_rfl,by kernel_rfl,by kernel_rfl⟩,trivial⟩
def Hq:Nat->Option bY:=over (ML g) 51 (je Rs)
def aaI:List V:=[.list 1 [au 2],KB]
def aaJ:V:=.bool true
theorem aqe:cu (Hq g) 200 (.fn 52 [] []) aaI []=some (aaJ,[],0):=by kernel_rfl
def aaK:List (List V × V):=[(aaI,aaJ)]
theorem aqf:jf (Hq g) 200 52 aaK:=⟨⟨by kernel_rfl,aqe g⟩,trivial⟩
def Hr:Nat->Option bY:=over (Hq g) 52 (je aaK)
def aaL:List V:=[wv]
def aaM:V:=.aU [Rq,au 0]
theorem aqg:cu (Hr g) 200 (.fn 18 [] []) aaL []=some (aaM,[],0):=by kernel_rfl
def m18:List (List V × V):=[(aaL,aaM)]
theorem aqi:jf (Hr g) 200 18 m18:=⟨⟨by kernel_rfl,aqg g⟩,trivial⟩
def Hs:Nat->Option bY:=over (Hr g) 18 (je m18)
def aaN:List V:=[Rq]
def aaO:V:=.bool true
theorem aqj:cu (Hs g) 200 (.fn 19 [] []) aaN []=some (aaO,[],0):=by kernel_rfl
def m19:List (List V × V):=[(aaN,aaO)]
theorem aqk:jf (Hs g) 200 19 m19:=⟨⟨by kernel_rfl,aqj g⟩,trivial⟩
def MM:Nat->Option bY:=over (Hs g) 19 (je m19)
theorem ahi:cu (MM g) 200 (.fn 4 [] []) [] []=some (.bool true,[],0):=by kernel_rfl
end
end Go.Abs.mN
