/- Texts of this claim, joined and written short by a program. -/
import Derived.Test.YtonmjjfciemcoaaGreatDoorP15
import Derived.Test.YtonmjjfciemcoaaGreatDoorP00
set_option linter.unusedVariables false
set_option linter.unusedSimpArgs false
set_option linter.unusedSectionVars false
set_option maxRecDepth 100000
namespace Go.Abs.bz
open Go Go.Abs Go.Proofs
noncomputable section
variable (g:Nat->Option Obj)
def abU:List V:=[sb]
def abV:V:=.bool true
theorem ap7:bm (Lz g) 200 (.fn 99 [] []) abU []=some (abV,[],0):=by kernel_rfl
def abW:List (List V × V):=[(abU,abV)]
theorem ap8:hC (Lz g) 200 99 abW:=⟨⟨by kernel_rfl,ap7 g⟩,trivial⟩
def LA:Nat->Option bU:=over (Lz g) 99 (hB abW)
def abX:List V:=[sb]
def abY:V:=.aU [Xa,J 0]
theorem ap9:bm (LA g) 200 (.fn 55 [] []) abX []=some (abY,[],0):=by kernel_rfl
def abZ:List (List V × V):=[(abX,abY)]
theorem aqa:hC (LA g) 200 55 abZ:=⟨⟨by kernel_rfl,ap9 g⟩,trivial⟩
def DN:Nat->Option bU:=over (LA g) 55 (hB abZ)
def ab0:List V:=[sb,Kk,.list 5 [.agg [.str [112],J 0,J 0,J 0,J 0]]]
def ab1:V:=.bool true
theorem aqb:bm (DN g) 200 (.fn 205 [] []) ab0 []=some (ab1,[],0):=by kernel_rfl
def ab2:List V:=[sb,Kk,.list 5 [.agg [.str [112],J 0,J 0,J 0,J 1]]]
def ab3:V:=.bool true
theorem aqc:bm (DN g) 200 (.fn 205 [] []) ab2 []=some (ab3,[],0):=by kernel_rfl
def ab4:List V:=[sb,OO,.aN]
def ab5:V:=.bool true
theorem aqd:bm (DN g) 200 (.fn 205 [] []) ab4 []=some (ab5,[],0):=by kernel_rfl
def ab6:List (List V × V):=[(ab0,ab1),(ab2,ab3),(ab4,ab5)]
theorem aqe:hC (DN g) 200 205 ab6:=⟨⟨by kernel_rfl,aqb g⟩,⟨⟨by kernel_rfl,aqc g⟩,⟨⟨by kernel_rfl,aqd g⟩,trivial⟩⟩⟩
def GY:Nat->Option bU:=over (DN g) 205 (hB ab6)
def ab7:List V:=[sb,J 0]
def ab8:V:=.list 1 [.list 1 [J 0],.list 1 [J 1]]
theorem aqf:bm (GY g) 200 (.fn 60 [] []) ab7 []=some (ab8,[],0):=by kernel_rfl
def ab9:List V:=[sb,J 1]
def aca:V:=.list 1 [.aN]
theorem aqg:bm (GY g) 200 (.fn 60 [] []) ab9 []=some (aca,[],0):=by kernel_rfl
def acb:List (List V × V):=[(ab7,ab8),(ab9,aca)]
theorem aqh:hC (GY g) 200 60 acb:=⟨⟨by kernel_rfl,aqf g⟩,⟨⟨by kernel_rfl,aqg g⟩,trivial⟩⟩
def Q8:Nat->Option bU:=over (GY g) 60 (hB acb)
theorem aqi:ZK.hC (bm (Q8 g) 200) 200 Tryz.f61.ntmps Xi:=⟨⟨by kernel_rfl,by kernel_rfl,by kernel_rfl⟩,⟨⟨by kernel_rfl,by kernel_rfl,by kernel_rfl⟩,⟨⟨by kernel_rfl,by kernel_rfl,by kernel_rfl⟩,trivial⟩⟩⟩
def LB:Nat->Option bU:=over (Q8 g) 61 (hB Xi)
def acd:List V:=[.list 1 [J 2],OP]
def ace:V:=.bool true
theorem aqj:bm (LB g) 200 (.fn 122 [] []) acd []=some (ace,[],0):=by kernel_rfl
def acf:List (List V × V):=[(acd,ace)]
theorem aqk:hC (LB g) 200 122 acf:=⟨⟨by kernel_rfl,aqj g⟩,trivial⟩
def LC:Nat->Option bU:=over (LB g) 122 (hB acf)
def acg:List V:=[sb]
def ach:V:=.aU [nh,J 0]
theorem aql:bm (LC g) 200 (.fn 34 [] []) acg []=some (ach,[],0):=by kernel_rfl
def aci:List (List V × V):=[(acg,ach)]
theorem aqm:hC (LC g) 200 34 aci:=⟨⟨by kernel_rfl,aql g⟩,trivial⟩
def LD:Nat->Option bU:=over (LC g) 34 (hB aci)
def acj:List V:=[nh]
def ack:V:=.bool true
theorem aqn:bm (LD g) 200 (.fn 63 [] []) acj []=some (ack,[],0):=by kernel_rfl
def acm:List (List V × V):=[(acj,ack)]
theorem aqo:hC (LD g) 200 63 acm:=⟨⟨by kernel_rfl,aqn g⟩,trivial⟩
def hR:Nat->Option bU:=over (LD g) 63 (hB acm)
end
end Go.Abs.bz
