/- Texts of this claim, joined and written short by a program. -/
import Derived.Test.YtgkcikhegodchaaGreatDoorS12
import Derived.Test.YtgkcikhegodchaaGreatDoorS00
set_option linter.unusedVariables false
set_option linter.unusedSimpArgs false
set_option linter.unusedSectionVars false
set_option maxRecDepth 100000
namespace Go.Abs.bs
open Go Go.Abs Go.Proofs
noncomputable section
variable (g:Nat->Option Obj)
def XI:List V:=[xp,.bX,xp]
def XJ:V:=.aU [xp,ak 0]
theorem akA:bD (I9 g) 200 (.fn 213 [] []) XI []=some (XJ,[],0):=by kernel_rfl
def XK:List (List V × V):=[(XI,XJ)]
theorem akB:jz (I9 g) 200 213 XK:=⟨⟨by kernel_rfl,akA g⟩,trivial⟩
def hZ:Nat->Option bV:=over (I9 g) 213 (jy XK)
def XL:List V:=[Tg]
def XM:V:=ak 1
theorem akC:bD (hZ g) 200 (.fn 106 [] []) XL []=some (XM,[],0):=by kernel_rfl
def XN:List V:=[Th]
def XO:V:=ak 2
theorem akD:bD (hZ g) 200 (.fn 106 [] []) XN []=some (XO,[],0):=by kernel_rfl
def XP:List V:=[Ti]
def XQ:V:=ak 1
theorem akE:bD (hZ g) 200 (.fn 106 [] []) XP []=some (XQ,[],0):=by kernel_rfl
def XR:List V:=[Tj]
def XS:V:=ak 2
theorem akF:bD (hZ g) 200 (.fn 106 [] []) XR []=some (XS,[],0):=by kernel_rfl
def XT:List V:=[Tk]
def XU:V:=ak 3
theorem akG:bD (hZ g) 200 (.fn 106 [] []) XT []=some (XU,[],0):=by kernel_rfl
def XV:List V:=[Tl]
def XW:V:=ak 4
theorem akH:bD (hZ g) 200 (.fn 106 [] []) XV []=some (XW,[],0):=by kernel_rfl
def XX:List V:=[Tm]
def XY:V:=ak 1
theorem akI:bD (hZ g) 200 (.fn 106 [] []) XX []=some (XY,[],0):=by kernel_rfl
def XZ:List V:=[Tn]
def X0:V:=ak 1
theorem akJ:bD (hZ g) 200 (.fn 106 [] []) XZ []=some (X0,[],0):=by kernel_rfl
def X1:List V:=[To]
def X2:V:=ak 1
theorem akK:bD (hZ g) 200 (.fn 106 [] []) X1 []=some (X2,[],0):=by kernel_rfl
def X3:List V:=[Tp]
def X4:V:=ak 2
theorem akL:bD (hZ g) 200 (.fn 106 [] []) X3 []=some (X4,[],0):=by kernel_rfl
def X5:List V:=[Tq]
def X6:V:=ak 3
theorem akM:bD (hZ g) 200 (.fn 106 [] []) X5 []=some (X6,[],0):=by kernel_rfl
def X7:List V:=[Tr]
def X8:V:=ak 1
theorem akN:bD (hZ g) 200 (.fn 106 [] []) X7 []=some (X8,[],0):=by kernel_rfl
def X9:List V:=[Ts]
def Ya:V:=ak 1
theorem akO:bD (hZ g) 200 (.fn 106 [] []) X9 []=some (Ya,[],0):=by kernel_rfl
def Yb:List V:=[Tt]
def Yc:V:=ak 1
theorem akP:bD (hZ g) 200 (.fn 106 [] []) Yb []=some (Yc,[],0):=by kernel_rfl
def Yd:List V:=[Tu]
def Ye:V:=ak 2
theorem akQ:bD (hZ g) 200 (.fn 106 [] []) Yd []=some (Ye,[],0):=by kernel_rfl
def Yf:List V:=[Tv]
def Yg:V:=ak 3
theorem akR:bD (hZ g) 200 (.fn 106 [] []) Yf []=some (Yg,[],0):=by kernel_rfl
def Yh:List V:=[Tw]
def Yi:V:=ak 1
theorem akS:bD (hZ g) 200 (.fn 106 [] []) Yh []=some (Yi,[],0):=by kernel_rfl
def Yj:List V:=[Tx]
def Yk:V:=ak 2
theorem akT:bD (hZ g) 200 (.fn 106 [] []) Yj []=some (Yk,[],0):=by kernel_rfl
def Yl:List V:=[Ty]
def Ym:V:=ak 4
theorem akU:bD (hZ g) 200 (.fn 106 [] []) Yl []=some (Ym,[],0):=by kernel_rfl
def Yn:List V:=[MC]
def Yo:V:=ak 1
theorem akV:bD (hZ g) 200 (.fn 106 [] []) Yn []=some (Yo,[],0):=by kernel_rfl
def Yp:List V:=[Tz]
def Yq:V:=ak 1
theorem akW:bD (hZ g) 200 (.fn 106 [] []) Yp []=some (Yq,[],0):=by kernel_rfl
def Yr:List V:=[TA]
def Ys:V:=ak 2
theorem akX:bD (hZ g) 200 (.fn 106 [] []) Yr []=some (Ys,[],0):=by kernel_rfl
def Yt:List V:=[TB]
def Yu:V:=ak 5
theorem akY:bD (hZ g) 200 (.fn 106 [] []) Yt []=some (Yu,[],0):=by kernel_rfl
def Yv:List V:=[TC]
def Yw:V:=ak 1
theorem akZ:bD (hZ g) 200 (.fn 106 [] []) Yv []=some (Yw,[],0):=by kernel_rfl
def Yx:List V:=[TD]
def Yy:V:=ak 2
theorem ak0:bD (hZ g) 200 (.fn 106 [] []) Yx []=some (Yy,[],0):=by kernel_rfl
def Yz:List V:=[TE]
def YA:V:=ak 6
theorem ak1:bD (hZ g) 200 (.fn 106 [] []) Yz []=some (YA,[],0):=by kernel_rfl
def YB:List V:=[TF]
def YC:V:=ak 7
theorem ak2:bD (hZ g) 200 (.fn 106 [] []) YB []=some (YC,[],0):=by kernel_rfl
def YD:List V:=[xp]
def YE:V:=ak 8
theorem ak3:bD (hZ g) 200 (.fn 106 [] []) YD []=some (YE,[],0):=by kernel_rfl
def YF:List (List V × V):=[(XL,XM),(XN,XO),(XP,XQ),(XR,XS),(XT,XU),(XV,XW),(XX,XY),(XZ,X0),(X1,X2),(X3,X4),(X5,X6),(X7,X8),(X9,Ya),(Yb,Yc),(Yd,Ye),(Yf,Yg),(Yh,Yi),(Yj,Yk),(Yl,Ym),(Yn,Yo),(Yp,Yq),(Yr,Ys),(Yt,Yu),(Yv,Yw),(Yx,Yy),(Yz,YA),(YB,YC),(YD,YE)]
theorem ak4:jz (hZ g) 200 106 YF:=⟨⟨by kernel_rfl,akC g⟩,⟨⟨by kernel_rfl,akD g⟩,⟨⟨by kernel_rfl,akE g⟩,⟨⟨by kernel_rfl,akF g⟩,⟨⟨by kernel_rfl,akG g⟩,⟨⟨by kernel_rfl,akH g⟩,⟨⟨by kernel_rfl,akI g⟩,⟨⟨by kernel_rfl,akJ g⟩,⟨⟨by kernel_rfl,akK g⟩,⟨⟨by kernel_rfl,akL g⟩,⟨⟨by kernel_rfl,akM g⟩,⟨⟨by kernel_rfl,akN g⟩,⟨⟨by kernel_rfl,akO g⟩,⟨⟨by kernel_rfl,akP g⟩,⟨⟨by kernel_rfl,akQ g⟩,⟨⟨by kernel_rfl,akR g⟩,⟨⟨by kernel_rfl,akS g⟩,⟨⟨by kernel_rfl,akT g⟩,⟨⟨by kernel_rfl,akU g⟩,⟨⟨by kernel_rfl,akV g⟩,⟨⟨by kernel_rfl,akW g⟩,⟨⟨by kernel_rfl,akX g⟩,⟨⟨by kernel_rfl,akY g⟩,⟨⟨by kernel_rfl,akZ g⟩,⟨⟨by kernel_rfl,ak0 g⟩,⟨⟨by kernel_rfl,ak1 g⟩,⟨⟨by kernel_rfl,ak2 g⟩,⟨⟨by kernel_rfl,ak3 g⟩,trivial⟩⟩⟩⟩⟩⟩⟩⟩⟩⟩⟩⟩⟩⟩⟩⟩⟩⟩⟩⟩⟩⟩⟩⟩⟩⟩⟩⟩
def Ja:Nat->Option bV:=over (hZ g) 106 (jy YF)
end
end Go.Abs.bs
