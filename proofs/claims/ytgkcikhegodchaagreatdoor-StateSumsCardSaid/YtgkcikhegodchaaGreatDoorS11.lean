/- Texts of this claim, joined and written short by a program. -/
import Derived.Test.YtgkcikhegodchaaGreatDoorS10
import Derived.Test.YtgkcikhegodchaaGreatDoorS00
set_option linter.unusedVariables false
set_option linter.unusedSimpArgs false
set_option linter.unusedSectionVars false
set_option maxRecDepth 100000
namespace Go.Abs.bs
open Go Go.Abs Go.Proofs
noncomputable section
variable (g:Nat->Option Obj)
def Wh:List V:=[.str [59,32,114,101,108,97,116,105,111,110,32,114,40,97,58,32,115,41,59,32,99,111,117,110,116,101,114,32,99,40,41,32,105,110,32,49,46,46,51,59,32,105,110,118,97,114,105,97,110,116,32,105,58,32,97,108,108,40,41,32,115,117,109,40,120,58,32,115,41,32,114,40,120,41,32,45,32,99,40,41,32,60,61,32,48,59]]
def Wi:V:=ak 1
theorem ajR:bD (hI g) 200 (.fn 249 [] []) Wh []=some (Wi,[],0):=by kernel_rfl
def Wj:List V:=[.str [40,97,58,32,115,41,59,32,99,111,117,110,116,101,114,32,99,40,41,32,105,110,32,49,46,46,51,59,32,105,110,118,97,114,105,97,110,116,32,105,58,32,97,108,108,40,41,32,115,117,109,40,120,58,32,115,41,32,114,40,120,41,32,45,32,99,40,41,32,60,61,32,48,59]]
def Wk:V:=ak 1
theorem ajS:bD (hI g) 200 (.fn 249 [] []) Wj []=some (Wk,[],0):=by kernel_rfl
def Wl:List V:=[.str [58,32,115,41,59,32,99,111,117,110,116,101,114,32,99,40,41,32,105,110,32,49,46,46,51,59,32,105,110,118,97,114,105,97,110,116,32,105,58,32,97,108,108,40,41,32,115,117,109,40,120,58,32,115,41,32,114,40,120,41,32,45,32,99,40,41,32,60,61,32,48,59]]
def Wm:V:=ak 1
theorem ajT:bD (hI g) 200 (.fn 249 [] []) Wl []=some (Wm,[],0):=by kernel_rfl
def Wn:List V:=[.str [41,59,32,99,111,117,110,116,101,114,32,99,40,41,32,105,110,32,49,46,46,51,59,32,105,110,118,97,114,105,97,110,116,32,105,58,32,97,108,108,40,41,32,115,117,109,40,120,58,32,115,41,32,114,40,120,41,32,45,32,99,40,41,32,60,61,32,48,59]]
def Wo:V:=ak 1
theorem ajU:bD (hI g) 200 (.fn 249 [] []) Wn []=some (Wo,[],0):=by kernel_rfl
def Wp:List V:=[.str [59,32,99,111,117,110,116,101,114,32,99,40,41,32,105,110,32,49,46,46,51,59,32,105,110,118,97,114,105,97,110,116,32,105,58,32,97,108,108,40,41,32,115,117,109,40,120,58,32,115,41,32,114,40,120,41,32,45,32,99,40,41,32,60,61,32,48,59]]
def Wq:V:=ak 1
theorem ajV:bD (hI g) 200 (.fn 249 [] []) Wp []=some (Wq,[],0):=by kernel_rfl
def Wr:List V:=[.str [40,41,32,105,110,32,49,46,46,51,59,32,105,110,118,97,114,105,97,110,116,32,105,58,32,97,108,108,40,41,32,115,117,109,40,120,58,32,115,41,32,114,40,120,41,32,45,32,99,40,41,32,60,61,32,48,59]]
def Ws:V:=ak 1
theorem ajW:bD (hI g) 200 (.fn 249 [] []) Wr []=some (Ws,[],0):=by kernel_rfl
def Wt:List V:=[.str [41,32,105,110,32,49,46,46,51,59,32,105,110,118,97,114,105,97,110,116,32,105,58,32,97,108,108,40,41,32,115,117,109,40,120,58,32,115,41,32,114,40,120,41,32,45,32,99,40,41,32,60,61,32,48,59]]
def Wu:V:=ak 1
theorem ajX:bD (hI g) 200 (.fn 249 [] []) Wt []=some (Wu,[],0):=by kernel_rfl
def Wv:List V:=[.str [46,46,51,59,32,105,110,118,97,114,105,97,110,116,32,105,58,32,97,108,108,40,41,32,115,117,109,40,120,58,32,115,41,32,114,40,120,41,32,45,32,99,40,41,32,60,61,32,48,59]]
def Ww:V:=ak 2
theorem ajY:bD (hI g) 200 (.fn 249 [] []) Wv []=some (Ww,[],0):=by kernel_rfl
def Wx:List V:=[.str [59,32,105,110,118,97,114,105,97,110,116,32,105,58,32,97,108,108,40,41,32,115,117,109,40,120,58,32,115,41,32,114,40,120,41,32,45,32,99,40,41,32,60,61,32,48,59]]
def Wy:V:=ak 1
theorem ajZ:bD (hI g) 200 (.fn 249 [] []) Wx []=some (Wy,[],0):=by kernel_rfl
def Wz:List V:=[.str [58,32,97,108,108,40,41,32,115,117,109,40,120,58,32,115,41,32,114,40,120,41,32,45,32,99,40,41,32,60,61,32,48,59]]
def WA:V:=ak 1
theorem aj0:bD (hI g) 200 (.fn 249 [] []) Wz []=some (WA,[],0):=by kernel_rfl
def WB:List V:=[.str [40,41,32,115,117,109,40,120,58,32,115,41,32,114,40,120,41,32,45,32,99,40,41,32,60,61,32,48,59]]
def WC:V:=ak 1
theorem aj1:bD (hI g) 200 (.fn 249 [] []) WB []=some (WC,[],0):=by kernel_rfl
def WD:List V:=[.str [41,32,115,117,109,40,120,58,32,115,41,32,114,40,120,41,32,45,32,99,40,41,32,60,61,32,48,59]]
def WE:V:=ak 1
theorem aj2:bD (hI g) 200 (.fn 249 [] []) WD []=some (WE,[],0):=by kernel_rfl
def WG:List V:=[.str [40,120,58,32,115,41,32,114,40,120,41,32,45,32,99,40,41,32,60,61,32,48,59]]
def WH:V:=ak 1
theorem aj3:bD (hI g) 200 (.fn 249 [] []) WG []=some (WH,[],0):=by kernel_rfl
def WI:List V:=[.str [58,32,115,41,32,114,40,120,41,32,45,32,99,40,41,32,60,61,32,48,59]]
def WJ:V:=ak 1
theorem aj4:bD (hI g) 200 (.fn 249 [] []) WI []=some (WJ,[],0):=by kernel_rfl
def WK:List V:=[.str [41,32,114,40,120,41,32,45,32,99,40,41,32,60,61,32,48,59]]
def WL:V:=ak 1
theorem aj5:bD (hI g) 200 (.fn 249 [] []) WK []=some (WL,[],0):=by kernel_rfl
def WM:List V:=[.str [40,120,41,32,45,32,99,40,41,32,60,61,32,48,59]]
def WN:V:=ak 1
theorem aj6:bD (hI g) 200 (.fn 249 [] []) WM []=some (WN,[],0):=by kernel_rfl
def WO:List V:=[.str [41,32,45,32,99,40,41,32,60,61,32,48,59]]
def WQ:V:=ak 1
theorem aj7:bD (hI g) 200 (.fn 249 [] []) WO []=some (WQ,[],0):=by kernel_rfl
def WR:List V:=[.str [45,32,99,40,41,32,60,61,32,48,59]]
def WS:V:=ak 1
theorem aj8:bD (hI g) 200 (.fn 249 [] []) WR []=some (WS,[],0):=by kernel_rfl
def WT:List V:=[.str [40,41,32,60,61,32,48,59]]
def WU:V:=ak 1
theorem aj9:bD (hI g) 200 (.fn 249 [] []) WT []=some (WU,[],0):=by kernel_rfl
def WV:List V:=[.str [41,32,60,61,32,48,59]]
def WW:V:=ak 1
theorem aka:bD (hI g) 200 (.fn 249 [] []) WV []=some (WW,[],0):=by kernel_rfl
def WX:List V:=[.str [60,61,32,48,59]]
def WY:V:=ak 2
theorem akb:bD (hI g) 200 (.fn 249 [] []) WX []=some (WY,[],0):=by kernel_rfl
def WZ:List V:=[.str [59]]
def W0:V:=ak 1
theorem akc:bD (hI g) 200 (.fn 249 [] []) WZ []=some (W0,[],0):=by kernel_rfl
def W1:List V:=[.str [40,41,61,50,59,114,32,40,32,48,32,41,32,61,32,49,32,59]]
def W2:V:=ak 1
theorem akd:bD (hI g) 200 (.fn 249 [] []) W1 []=some (W2,[],0):=by kernel_rfl
def W3:List V:=[.str [41,61,50,59,114,32,40,32,48,32,41,32,61,32,49,32,59]]
def W4:V:=ak 1
theorem ake:bD (hI g) 200 (.fn 249 [] []) W3 []=some (W4,[],0):=by kernel_rfl
def W5:List V:=[.str [61,50,59,114,32,40,32,48,32,41,32,61,32,49,32,59]]
def W6:V:=ak 1
theorem akf:bD (hI g) 200 (.fn 249 [] []) W5 []=some (W6,[],0):=by kernel_rfl
def W7:List V:=[.str [59,114,32,40,32,48,32,41,32,61,32,49,32,59]]
def W8:V:=ak 1
theorem akg:bD (hI g) 200 (.fn 249 [] []) W7 []=some (W8,[],0):=by kernel_rfl
def W9:List V:=[.str [40,32,48,32,41,32,61,32,49,32,59]]
def Xa:V:=ak 1
theorem akh:bD (hI g) 200 (.fn 249 [] []) W9 []=some (Xa,[],0):=by kernel_rfl
def Xb:List V:=[.str [41,32,61,32,49,32,59]]
def Xc:V:=ak 1
theorem aki:bD (hI g) 200 (.fn 249 [] []) Xb []=some (Xc,[],0):=by kernel_rfl
def Xd:List V:=[.str [61,32,49,32,59]]
def Xe:V:=ak 1
theorem akj:bD (hI g) 200 (.fn 249 [] []) Xd []=some (Xe,[],0):=by kernel_rfl
def Xf:List (List V × V):=[(Wh,Wi),(Wj,Wk),(Wl,Wm),(Wn,Wo),(Wp,Wq),(Wr,Ws),(Wt,Wu),(Wv,Ww),(Wx,Wy),(Wz,WA),(WB,WC),(WD,WE),(WG,WH),(WI,WJ),(WK,WL),(WM,WN),(WO,WQ),(WR,WS),(WT,WU),(WV,WW),(WX,WY),(WZ,W0),(W1,W2),(W3,W4),(W5,W6),(W7,W8),(W9,Xa),(Xb,Xc),(Xd,Xe)]
theorem akk:jz (hI g) 200 249 Xf:=⟨⟨by kernel_rfl,ajR g⟩,⟨⟨by kernel_rfl,ajS g⟩,⟨⟨by kernel_rfl,ajT g⟩,⟨⟨by kernel_rfl,ajU g⟩,⟨⟨by kernel_rfl,ajV g⟩,⟨⟨by kernel_rfl,ajW g⟩,⟨⟨by kernel_rfl,ajX g⟩,⟨⟨by kernel_rfl,ajY g⟩,⟨⟨by kernel_rfl,ajZ g⟩,⟨⟨by kernel_rfl,aj0 g⟩,⟨⟨by kernel_rfl,aj1 g⟩,⟨⟨by kernel_rfl,aj2 g⟩,⟨⟨by kernel_rfl,aj3 g⟩,⟨⟨by kernel_rfl,aj4 g⟩,⟨⟨by kernel_rfl,aj5 g⟩,⟨⟨by kernel_rfl,aj6 g⟩,⟨⟨by kernel_rfl,aj7 g⟩,⟨⟨by kernel_rfl,aj8 g⟩,⟨⟨by kernel_rfl,aj9 g⟩,⟨⟨by kernel_rfl,aka g⟩,⟨⟨by kernel_rfl,akb g⟩,⟨⟨by kernel_rfl,akc g⟩,⟨⟨by kernel_rfl,akd g⟩,⟨⟨by kernel_rfl,ake g⟩,⟨⟨by kernel_rfl,akf g⟩,⟨⟨by kernel_rfl,akg g⟩,⟨⟨by kernel_rfl,akh g⟩,⟨⟨by kernel_rfl,aki g⟩,⟨⟨by kernel_rfl,akj g⟩,trivial⟩⟩⟩⟩⟩⟩⟩⟩⟩⟩⟩⟩⟩⟩⟩⟩⟩⟩⟩⟩⟩⟩⟩⟩⟩⟩⟩⟩⟩
def qW:Nat->Option bV:=over (hI g) 249 (jy Xf)
def Xg:List V:=[.str [50]]
def Xh:V:=ak 3
theorem akl:bD (qW g) 200 (.fn 138 [] []) Xg []=some (Xh,[],0):=by kernel_rfl
def Xi:List V:=[.str [49]]
def Xj:V:=ak 3
theorem akm:bD (qW g) 200 (.fn 138 [] []) Xi []=some (Xj,[],0):=by kernel_rfl
def Xk:List V:=[.str [51]]
def Xl:V:=ak 3
theorem akn:bD (qW g) 200 (.fn 138 [] []) Xk []=some (Xl,[],0):=by kernel_rfl
def Xm:List V:=[.str [48]]
def Xn:V:=ak 3
theorem ako:bD (qW g) 200 (.fn 138 [] []) Xm []=some (Xn,[],0):=by kernel_rfl
def Xo:List V:=[.str [115]]
def Xp:V:=ak 1
theorem akp:bD (qW g) 200 (.fn 138 [] []) Xo []=some (Xp,[],0):=by kernel_rfl
def Xq:List V:=[.str [114]]
def Xr:V:=ak 1
theorem akq:bD (qW g) 200 (.fn 138 [] []) Xq []=some (Xr,[],0):=by kernel_rfl
def Xt:List V:=[.str [97]]
def Xu:V:=ak 1
theorem akr:bD (qW g) 200 (.fn 138 [] []) Xt []=some (Xu,[],0):=by kernel_rfl
def Xv:List V:=[.str [99]]
def Xw:V:=ak 1
theorem aks:bD (qW g) 200 (.fn 138 [] []) Xv []=some (Xw,[],0):=by kernel_rfl
def Xx:List V:=[.str [105]]
def Xy:V:=ak 1
theorem akt:bD (qW g) 200 (.fn 138 [] []) Xx []=some (Xy,[],0):=by kernel_rfl
def Xz:List V:=[.str [120]]
def XA:V:=ak 1
theorem aku:bD (qW g) 200 (.fn 138 [] []) Xz []=some (XA,[],0):=by kernel_rfl
def XB:List (List V × V):=[(Xg,Xh),(Xi,Xj),(Xk,Xl),(Xm,Xn),(Xo,Xp),(Xq,Xr),(Xt,Xu),(Xv,Xw),(Xx,Xy),(Xz,XA)]
theorem akv:jz (qW g) 200 138 XB:=⟨⟨by kernel_rfl,akl g⟩,⟨⟨by kernel_rfl,akm g⟩,⟨⟨by kernel_rfl,akn g⟩,⟨⟨by kernel_rfl,ako g⟩,⟨⟨by kernel_rfl,akp g⟩,⟨⟨by kernel_rfl,akq g⟩,⟨⟨by kernel_rfl,akr g⟩,⟨⟨by kernel_rfl,aks g⟩,⟨⟨by kernel_rfl,akt g⟩,⟨⟨by kernel_rfl,aku g⟩,trivial⟩⟩⟩⟩⟩⟩⟩⟩⟩⟩
def I7:Nat->Option bV:=over (qW g) 138 (jy XB)
end
end Go.Abs.bs
