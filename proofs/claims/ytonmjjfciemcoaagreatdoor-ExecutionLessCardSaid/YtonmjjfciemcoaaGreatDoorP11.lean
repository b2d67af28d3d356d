/- Texts of this claim, joined and written short by a program. -/
import Derived.Test.YtonmjjfciemcoaaGreatDoorP10
import Derived.Test.YtonmjjfciemcoaaGreatDoorP00
set_option linter.unusedVariables false
set_option linter.unusedSimpArgs false
set_option linter.unusedSectionVars false
set_option maxRecDepth 100000
namespace Go.Abs.bz
open Go Go.Abs Go.Proofs
noncomputable section
variable (g:Nat->Option Obj)
def iO (n:Nat):List UInt8:=(match FK with| .str l=>l| _=>[]).drop n
def ZL:List (List V × V):=[([.str (iO 8)],J 1),([.str (iO 20)],J 1),([.str (iO 22)],J 1),([.str (iO 25)],J 1),([.str (iO 26)],J 1),([.str (iO 39)],J 1),([.str (iO 48)],J 1),([.str (iO 49)],J 1),([.str (iO 51)],J 2),([.str (iO 55)],J 1),([.str (iO 68)],J 1),([.str (iO 70)],J 1),([.str (iO 73)],J 1),([.str (iO 75)],J 1),([.str (iO 85)],J 1),([.str (iO 87)],J 1),([.str (iO 88)],J 1),([.str (iO 90)],J 1),([.str (iO 103)],J 1),([.str (iO 104)],J 1),([.str (iO 106)],J 1),([.str (iO 114)],J 1),([.str (iO 116)],J 1),([.str (iO 118)],J 2),([.str (iO 122)],J 1),([.str (iO 132)],J 1),([.str (iO 134)],J 1),([.str (iO 135)],J 1),([.str (iO 145)],J 1),([.str [41,59,32,125]],J 1),([.str [59,32,125]],J 1),([.str [125]],J 1)]
theorem aoO:hC (Q3 g) 200 383 ZL:=by repeat first|exact trivial|refine⟨⟨by kernel_rfl,by kernel_rfl⟩,?_⟩
def Q4:Nat->Option bU:=over (Q3 g) 383 (hB ZL)
def ZM:List (List V × V):=[]
theorem aoP:hC (Q4 g) 200 385 ZM:=trivial
def rr:Nat->Option bU:=over (Q4 g) 385 (hB ZM)
def ZN:List V:=[.str [50]]
def ZO:V:=J 3
theorem aoQ:bm (rr g) 200 (.fn 259 [] []) ZN []=some (ZO,[],0):=by kernel_rfl
def ZP:List V:=[.str [49]]
def ZQ:V:=J 3
theorem aoR:bm (rr g) 200 (.fn 259 [] []) ZP []=some (ZQ,[],0):=by kernel_rfl
def ZR:List V:=[.str [48]]
def ZS:V:=J 3
theorem aoS:bm (rr g) 200 (.fn 259 [] []) ZR []=some (ZS,[],0):=by kernel_rfl
def ZT:List V:=[.str [115]]
def ZU:V:=J 1
theorem aoT:bm (rr g) 200 (.fn 259 [] []) ZT []=some (ZU,[],0):=by kernel_rfl
def ZV:List V:=[.str [114]]
def ZW:V:=J 1
theorem aoU:bm (rr g) 200 (.fn 259 [] []) ZV []=some (ZW,[],0):=by kernel_rfl
def ZX:List V:=[.str [97]]
def ZY:V:=J 1
theorem aoV:bm (rr g) 200 (.fn 259 [] []) ZX []=some (ZY,[],0):=by kernel_rfl
def ZZ:List V:=[.str [105]]
def Z0:V:=J 1
theorem aoW:bm (rr g) 200 (.fn 259 [] []) ZZ []=some (Z0,[],0):=by kernel_rfl
def Z1:List V:=[.str [111]]
def Z2:V:=J 1
theorem aoX:bm (rr g) 200 (.fn 259 [] []) Z1 []=some (Z2,[],0):=by kernel_rfl
def Z3:List V:=[.str [112]]
def Z4:V:=J 1
theorem aoY:bm (rr g) 200 (.fn 259 [] []) Z3 []=some (Z4,[],0):=by kernel_rfl
def Z5:List V:=[.str [107]]
def Z6:V:=J 1
theorem aoZ:bm (rr g) 200 (.fn 259 [] []) Z5 []=some (Z6,[],0):=by kernel_rfl
def Z7:List (List V × V):=[(ZN,ZO),(ZP,ZQ),(ZR,ZS),(ZT,ZU),(ZV,ZW),(ZX,ZY),(ZZ,Z0),(Z1,Z2),(Z3,Z4),(Z5,Z6)]
theorem ao0:hC (rr g) 200 259 Z7:=⟨⟨by kernel_rfl,aoQ g⟩,⟨⟨by kernel_rfl,aoR g⟩,⟨⟨by kernel_rfl,aoS g⟩,⟨⟨by kernel_rfl,aoT g⟩,⟨⟨by kernel_rfl,aoU g⟩,⟨⟨by kernel_rfl,aoV g⟩,⟨⟨by kernel_rfl,aoW g⟩,⟨⟨by kernel_rfl,aoX g⟩,⟨⟨by kernel_rfl,aoY g⟩,⟨⟨by kernel_rfl,aoZ g⟩,trivial⟩⟩⟩⟩⟩⟩⟩⟩⟩⟩
def Lr:Nat->Option bU:=over (rr g) 259 (hB Z7)
def Z8:List V:=[u4]
def Z9:V:=.bool true
theorem ao1:bm (Lr g) 200 (.fn 91 [] []) Z8 []=some (Z9,[],0):=by kernel_rfl
def aaa:List (List V × V):=[(Z8,Z9)]
theorem ao2:hC (Lr g) 200 91 aaa:=⟨⟨by kernel_rfl,ao1 g⟩,trivial⟩
def Ls:Nat->Option bU:=over (Lr g) 91 (hB aaa)
end
end Go.Abs.bz
