/- Texts of this claim, joined and written short by a program. -/
import Derived.Test.YtdoflpjbdlgciaaGreatDoorP10
import Derived.Test.YtdoflpjbdlgciaaGreatDoorP00
set_option linter.unusedVariables false
set_option linter.unusedSimpArgs false
set_option linter.unusedSectionVars false
set_option maxRecDepth 100000
namespace Go.Abs.bZ
open Go Go.Abs Go.Proofs
noncomputable section
variable (g:Nat->Option Obj)
def iB (n:Nat):List UInt8:=(match D4 with| .str l=>l| _=>[]).drop n
def Xk:List (List V × V):=[([.str (iB 8)],J 1),([.str (iB 20)],J 1),([.str (iB 22)],J 1),([.str (iB 25)],J 1),([.str (iB 26)],J 1),([.str (iB 39)],J 1),([.str (iB 48)],J 1),([.str (iB 49)],J 1),([.str (iB 51)],J 2),([.str (iB 55)],J 1),([.str (iB 68)],J 1),([.str (iB 70)],J 1),([.str (iB 73)],J 1),([.str (iB 75)],J 1),([.str (iB 85)],J 1),([.str (iB 87)],J 1),([.str (iB 88)],J 1),([.str (iB 90)],J 1),([.str (iB 103)],J 1),([.str (iB 104)],J 1),([.str (iB 106)],J 1),([.str (iB 114)],J 1),([.str (iB 116)],J 1),([.str (iB 118)],J 2),([.str (iB 122)],J 1),([.str (iB 132)],J 1),([.str (iB 134)],J 1),([.str (iB 135)],J 1),([.str (iB 145)],J 1),([.str [41,59,32,125]],J 1),([.str [59,32,125]],J 1),([.str [125]],J 1)]
theorem ala:hq (PS g) 200 363 Xk:=by repeat first|exact trivial|refine⟨⟨by kernel_rfl,by kernel_rfl⟩,?_⟩
def PT:Nat->Option cb:=over (PS g) 363 (hk Xk)
def Xl:List (List V × V):=[]
theorem alb:hq (PT g) 200 365 Xl:=trivial
def qQ:Nat->Option cb:=over (PT g) 365 (hk Xl)
def Xm:List V:=[.str [50]]
def Xn:V:=J 3
theorem alc:bm (qQ g) 200 (.fn 233 [] []) Xm []=some (Xn,[],0):=by kernel_rfl
def Xo:List V:=[.str [49]]
def Xp:V:=J 3
theorem ald:bm (qQ g) 200 (.fn 233 [] []) Xo []=some (Xp,[],0):=by kernel_rfl
def Xq:List V:=[.str [48]]
def Xr:V:=J 3
theorem ale:bm (qQ g) 200 (.fn 233 [] []) Xq []=some (Xr,[],0):=by kernel_rfl
def Xt:List V:=[.str [115]]
def Xu:V:=J 1
theorem alf:bm (qQ g) 200 (.fn 233 [] []) Xt []=some (Xu,[],0):=by kernel_rfl
def Xv:List V:=[.str [114]]
def Xw:V:=J 1
theorem alg:bm (qQ g) 200 (.fn 233 [] []) Xv []=some (Xw,[],0):=by kernel_rfl
def Xx:List V:=[.str [97]]
def Xy:V:=J 1
theorem alh:bm (qQ g) 200 (.fn 233 [] []) Xx []=some (Xy,[],0):=by kernel_rfl
def Xz:List V:=[.str [105]]
def XA:V:=J 1
theorem ali:bm (qQ g) 200 (.fn 233 [] []) Xz []=some (XA,[],0):=by kernel_rfl
def XB:List V:=[.str [111]]
def XC:V:=J 1
theorem alj:bm (qQ g) 200 (.fn 233 [] []) XB []=some (XC,[],0):=by kernel_rfl
def XD:List V:=[.str [112]]
def XE:V:=J 1
theorem alk:bm (qQ g) 200 (.fn 233 [] []) XD []=some (XE,[],0):=by kernel_rfl
def XF:List V:=[.str [107]]
def XG:V:=J 1
theorem alm:bm (qQ g) 200 (.fn 233 [] []) XF []=some (XG,[],0):=by kernel_rfl
def XH:List (List V × V):=[(Xm,Xn),(Xo,Xp),(Xq,Xr),(Xt,Xu),(Xv,Xw),(Xx,Xy),(Xz,XA),(XB,XC),(XD,XE),(XF,XG)]
theorem aln:hq (qQ g) 200 233 XH:=⟨⟨by kernel_rfl,alc g⟩,⟨⟨by kernel_rfl,ald g⟩,⟨⟨by kernel_rfl,ale g⟩,⟨⟨by kernel_rfl,alf g⟩,⟨⟨by kernel_rfl,alg g⟩,⟨⟨by kernel_rfl,alh g⟩,⟨⟨by kernel_rfl,ali g⟩,⟨⟨by kernel_rfl,alj g⟩,⟨⟨by kernel_rfl,alk g⟩,⟨⟨by kernel_rfl,alm g⟩,trivial⟩⟩⟩⟩⟩⟩⟩⟩⟩⟩
def JR:Nat->Option cb:=over (qQ g) 233 (hk XH)
def XI:List V:=[tG]
def XJ:V:=.bool true
theorem alo:bm (JR g) 200 (.fn 70 [] []) XI []=some (XJ,[],0):=by kernel_rfl
def XK:List (List V × V):=[(XI,XJ)]
theorem alp:hq (JR g) 200 70 XK:=⟨⟨by kernel_rfl,alo g⟩,trivial⟩
def JS:Nat->Option cb:=over (JR g) 70 (hk XK)
end
end Go.Abs.bZ
