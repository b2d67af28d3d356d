/- Texts of this claim, joined and written short by a program. -/
import Derived.Test.YtgkcikhegodchaaGreatDoorP10
import Derived.Test.YtgkcikhegodchaaGreatDoorP00
set_option linter.unusedVariables false
set_option linter.unusedSimpArgs false
set_option linter.unusedSectionVars false
set_option maxRecDepth 100000
namespace Go.Abs.bA
open Go Go.Abs Go.Proofs
noncomputable section
variable (g:Nat->Option Obj)
def YI:List V:=[.str [59,32,114,101,108,97,116,105,111,110,32,114,40,97,58,32,115,41,59,32,99,111,117,110,116,101,114,32,99,40,41,32,105,110,32,49,46,46,51,59,32,105,110,118,97,114,105,97,110,116,32,105,58,32,97,108,108,40,41,32,115,117,109,40,120,58,32,115,41,32,114,40,120,41,32,45,32,99,40,41,32,60,61,32,48,59]]
def YJ:V:=aj 1
theorem al5:bN (hZ g) 200 (.fn 249 [] []) YI []=some (YJ,[],0):=by kernel_rfl
def YK:List V:=[.str [40,97,58,32,115,41,59,32,99,111,117,110,116,101,114,32,99,40,41,32,105,110,32,49,46,46,51,59,32,105,110,118,97,114,105,97,110,116,32,105,58,32,97,108,108,40,41,32,115,117,109,40,120,58,32,115,41,32,114,40,120,41,32,45,32,99,40,41,32,60,61,32,48,59]]
def YL:V:=aj 1
theorem al6:bN (hZ g) 200 (.fn 249 [] []) YK []=some (YL,[],0):=by kernel_rfl
def YM:List V:=[.str [58,32,115,41,59,32,99,111,117,110,116,101,114,32,99,40,41,32,105,110,32,49,46,46,51,59,32,105,110,118,97,114,105,97,110,116,32,105,58,32,97,108,108,40,41,32,115,117,109,40,120,58,32,115,41,32,114,40,120,41,32,45,32,99,40,41,32,60,61,32,48,59]]
def YN:V:=aj 1
theorem al7:bN (hZ g) 200 (.fn 249 [] []) YM []=some (YN,[],0):=by kernel_rfl
def YO:List V:=[.str [41,59,32,99,111,117,110,116,101,114,32,99,40,41,32,105,110,32,49,46,46,51,59,32,105,110,118,97,114,105,97,110,116,32,105,58,32,97,108,108,40,41,32,115,117,109,40,120,58,32,115,41,32,114,40,120,41,32,45,32,99,40,41,32,60,61,32,48,59]]
def YP:V:=aj 1
theorem al8:bN (hZ g) 200 (.fn 249 [] []) YO []=some (YP,[],0):=by kernel_rfl
def YQ:List V:=[.str [59,32,99,111,117,110,116,101,114,32,99,40,41,32,105,110,32,49,46,46,51,59,32,105,110,118,97,114,105,97,110,116,32,105,58,32,97,108,108,40,41,32,115,117,109,40,120,58,32,115,41,32,114,40,120,41,32,45,32,99,40,41,32,60,61,32,48,59]]
def YR:V:=aj 1
theorem al9:bN (hZ g) 200 (.fn 249 [] []) YQ []=some (YR,[],0):=by kernel_rfl
def YS:List V:=[.str [40,41,32,105,110,32,49,46,46,51,59,32,105,110,118,97,114,105,97,110,116,32,105,58,32,97,108,108,40,41,32,115,117,109,40,120,58,32,115,41,32,114,40,120,41,32,45,32,99,40,41,32,60,61,32,48,59]]
def YT:V:=aj 1
theorem ama:bN (hZ g) 200 (.fn 249 [] []) YS []=some (YT,[],0):=by kernel_rfl
def YU:List V:=[.str [41,32,105,110,32,49,46,46,51,59,32,105,110,118,97,114,105,97,110,116,32,105,58,32,97,108,108,40,41,32,115,117,109,40,120,58,32,115,41,32,114,40,120,41,32,45,32,99,40,41,32,60,61,32,48,59]]
def YV:V:=aj 1
theorem amb:bN (hZ g) 200 (.fn 249 [] []) YU []=some (YV,[],0):=by kernel_rfl
def YW:List V:=[.str [46,46,51,59,32,105,110,118,97,114,105,97,110,116,32,105,58,32,97,108,108,40,41,32,115,117,109,40,120,58,32,115,41,32,114,40,120,41,32,45,32,99,40,41,32,60,61,32,48,59]]
def YX:V:=aj 2
theorem amc:bN (hZ g) 200 (.fn 249 [] []) YW []=some (YX,[],0):=by kernel_rfl
def YY:List V:=[.str [59,32,105,110,118,97,114,105,97,110,116,32,105,58,32,97,108,108,40,41,32,115,117,109,40,120,58,32,115,41,32,114,40,120,41,32,45,32,99,40,41,32,60,61,32,48,59]]
def YZ:V:=aj 1
theorem amd:bN (hZ g) 200 (.fn 249 [] []) YY []=some (YZ,[],0):=by kernel_rfl
def Y0:List V:=[.str [58,32,97,108,108,40,41,32,115,117,109,40,120,58,32,115,41,32,114,40,120,41,32,45,32,99,40,41,32,60,61,32,48,59]]
def Y1:V:=aj 1
theorem ame:bN (hZ g) 200 (.fn 249 [] []) Y0 []=some (Y1,[],0):=by kernel_rfl
def Y2:List V:=[.str [40,41,32,115,117,109,40,120,58,32,115,41,32,114,40,120,41,32,45,32,99,40,41,32,60,61,32,48,59]]
def Y3:V:=aj 1
theorem amf:bN (hZ g) 200 (.fn 249 [] []) Y2 []=some (Y3,[],0):=by kernel_rfl
def Y4:List V:=[.str [41,32,115,117,109,40,120,58,32,115,41,32,114,40,120,41,32,45,32,99,40,41,32,60,61,32,48,59]]
def Y5:V:=aj 1
theorem amg:bN (hZ g) 200 (.fn 249 [] []) Y4 []=some (Y5,[],0):=by kernel_rfl
def Y6:List V:=[.str [40,120,58,32,115,41,32,114,40,120,41,32,45,32,99,40,41,32,60,61,32,48,59]]
def Y7:V:=aj 1
theorem amh:bN (hZ g) 200 (.fn 249 [] []) Y6 []=some (Y7,[],0):=by kernel_rfl
def Y8:List V:=[.str [58,32,115,41,32,114,40,120,41,32,45,32,99,40,41,32,60,61,32,48,59]]
def Y9:V:=aj 1
theorem ami:bN (hZ g) 200 (.fn 249 [] []) Y8 []=some (Y9,[],0):=by kernel_rfl
def Za:List V:=[.str [41,32,114,40,120,41,32,45,32,99,40,41,32,60,61,32,48,59]]
def Zb:V:=aj 1
theorem amj:bN (hZ g) 200 (.fn 249 [] []) Za []=some (Zb,[],0):=by kernel_rfl
def Zc:List V:=[.str [40,120,41,32,45,32,99,40,41,32,60,61,32,48,59]]
def Zd:V:=aj 1
theorem amk:bN (hZ g) 200 (.fn 249 [] []) Zc []=some (Zd,[],0):=by kernel_rfl
def Ze:List V:=[.str [41,32,45,32,99,40,41,32,60,61,32,48,59]]
def Zf:V:=aj 1
theorem aml:bN (hZ g) 200 (.fn 249 [] []) Ze []=some (Zf,[],0):=by kernel_rfl
def Zg:List V:=[.str [45,32,99,40,41,32,60,61,32,48,59]]
def Zh:V:=aj 1
theorem amm:bN (hZ g) 200 (.fn 249 [] []) Zg []=some (Zh,[],0):=by kernel_rfl
def Zi:List V:=[.str [40,41,32,60,61,32,48,59]]
def Zj:V:=aj 1
theorem amn:bN (hZ g) 200 (.fn 249 [] []) Zi []=some (Zj,[],0):=by kernel_rfl
def Zk:List V:=[.str [41,32,60,61,32,48,59]]
def Zl:V:=aj 1
theorem amo:bN (hZ g) 200 (.fn 249 [] []) Zk []=some (Zl,[],0):=by kernel_rfl
def Zm:List V:=[.str [60,61,32,48,59]]
def Zn:V:=aj 2
theorem amp:bN (hZ g) 200 (.fn 249 [] []) Zm []=some (Zn,[],0):=by kernel_rfl
def Zo:List V:=[.str [59]]
def Zp:V:=aj 1
theorem amq:bN (hZ g) 200 (.fn 249 [] []) Zo []=some (Zp,[],0):=by kernel_rfl
def Zq:List V:=[.str [40,41,61,50,59,114,32,40,32,48,32,41,32,61,32,49,32,59]]
def Zr:V:=aj 1
theorem amr:bN (hZ g) 200 (.fn 249 [] []) Zq []=some (Zr,[],0):=by kernel_rfl
def Zs:List V:=[.str [41,61,50,59,114,32,40,32,48,32,41,32,61,32,49,32,59]]
def Zt:V:=aj 1
theorem ams:bN (hZ g) 200 (.fn 249 [] []) Zs []=some (Zt,[],0):=by kernel_rfl
def Zu:List V:=[.str [61,50,59,114,32,40,32,48,32,41,32,61,32,49,32,59]]
def Zv:V:=aj 1
theorem amt:bN (hZ g) 200 (.fn 249 [] []) Zu []=some (Zv,[],0):=by kernel_rfl
def Zw:List V:=[.str [59,114,32,40,32,48,32,41,32,61,32,49,32,59]]
def Zx:V:=aj 1
theorem amu:bN (hZ g) 200 (.fn 249 [] []) Zw []=some (Zx,[],0):=by kernel_rfl
def Zy:List V:=[.str [40,32,48,32,41,32,61,32,49,32,59]]
def Zz:V:=aj 1
theorem amv:bN (hZ g) 200 (.fn 249 [] []) Zy []=some (Zz,[],0):=by kernel_rfl
def ZA:List V:=[.str [41,32,61,32,49,32,59]]
def ZB:V:=aj 1
theorem amw:bN (hZ g) 200 (.fn 249 [] []) ZA []=some (ZB,[],0):=by kernel_rfl
def ZC:List V:=[.str [61,32,49,32,59]]
def ZD:V:=aj 1
theorem amx:bN (hZ g) 200 (.fn 249 [] []) ZC []=some (ZD,[],0):=by kernel_rfl
def ZE:List (List V × V):=[(YI,YJ),(YK,YL),(YM,YN),(YO,YP),(YQ,YR),(YS,YT),(YU,YV),(YW,YX),(YY,YZ),(Y0,Y1),(Y2,Y3),(Y4,Y5),(Y6,Y7),(Y8,Y9),(Za,Zb),(Zc,Zd),(Ze,Zf),(Zg,Zh),(Zi,Zj),(Zk,Zl),(Zm,Zn),(Zo,Zp),(Zq,Zr),(Zs,Zt),(Zu,Zv),(Zw,Zx),(Zy,Zz),(ZA,ZB),(ZC,ZD)]
theorem amy:jJ (hZ g) 200 249 ZE:=⟨⟨by kernel_rfl,al5 g⟩,⟨⟨by kernel_rfl,al6 g⟩,⟨⟨by kernel_rfl,al7 g⟩,⟨⟨by kernel_rfl,al8 g⟩,⟨⟨by kernel_rfl,al9 g⟩,⟨⟨by kernel_rfl,ama g⟩,⟨⟨by kernel_rfl,amb g⟩,⟨⟨by kernel_rfl,amc g⟩,⟨⟨by kernel_rfl,amd g⟩,⟨⟨by kernel_rfl,ame g⟩,⟨⟨by kernel_rfl,amf g⟩,⟨⟨by kernel_rfl,amg g⟩,⟨⟨by kernel_rfl,amh g⟩,⟨⟨by kernel_rfl,ami g⟩,⟨⟨by kernel_rfl,amj g⟩,⟨⟨by kernel_rfl,amk g⟩,⟨⟨by kernel_rfl,aml g⟩,⟨⟨by kernel_rfl,amm g⟩,⟨⟨by kernel_rfl,amn g⟩,⟨⟨by kernel_rfl,amo g⟩,⟨⟨by kernel_rfl,amp g⟩,⟨⟨by kernel_rfl,amq g⟩,⟨⟨by kernel_rfl,amr g⟩,⟨⟨by kernel_rfl,ams g⟩,⟨⟨by kernel_rfl,amt g⟩,⟨⟨by kernel_rfl,amu g⟩,⟨⟨by kernel_rfl,amv g⟩,⟨⟨by kernel_rfl,amw g⟩,⟨⟨by kernel_rfl,amx g⟩,trivial⟩⟩⟩⟩⟩⟩⟩⟩⟩⟩⟩⟩⟩⟩⟩⟩⟩⟩⟩⟩⟩⟩⟩⟩⟩⟩⟩⟩⟩
def rG:Nat->Option cc:=over (hZ g) 249 (jI ZE)
def ZF:List V:=[.str [50]]
def ZG:V:=aj 3
theorem amz:bN (rG g) 200 (.fn 138 [] []) ZF []=some (ZG,[],0):=by kernel_rfl
def ZH:List V:=[.str [49]]
def ZI:V:=aj 3
theorem amA:bN (rG g) 200 (.fn 138 [] []) ZH []=some (ZI,[],0):=by kernel_rfl
def ZJ:List V:=[.str [51]]
def ZK:V:=aj 3
theorem amB:bN (rG g) 200 (.fn 138 [] []) ZJ []=some (ZK,[],0):=by kernel_rfl
def ZL:List V:=[.str [48]]
def ZM:V:=aj 3
theorem amC:bN (rG g) 200 (.fn 138 [] []) ZL []=some (ZM,[],0):=by kernel_rfl
def ZN:List V:=[.str [115]]
def ZO:V:=aj 1
theorem amD:bN (rG g) 200 (.fn 138 [] []) ZN []=some (ZO,[],0):=by kernel_rfl
def ZP:List V:=[.str [114]]
def ZQ:V:=aj 1
theorem amE:bN (rG g) 200 (.fn 138 [] []) ZP []=some (ZQ,[],0):=by kernel_rfl
def ZR:List V:=[.str [97]]
def ZS:V:=aj 1
theorem amF:bN (rG g) 200 (.fn 138 [] []) ZR []=some (ZS,[],0):=by kernel_rfl
def ZT:List V:=[.str [99]]
def ZU:V:=aj 1
theorem amG:bN (rG g) 200 (.fn 138 [] []) ZT []=some (ZU,[],0):=by kernel_rfl
def ZV:List V:=[.str [105]]
def ZW:V:=aj 1
theorem amH:bN (rG g) 200 (.fn 138 [] []) ZV []=some (ZW,[],0):=by kernel_rfl
def ZX:List V:=[.str [120]]
def ZY:V:=aj 1
theorem amI:bN (rG g) 200 (.fn 138 [] []) ZX []=some (ZY,[],0):=by kernel_rfl
def ZZ:List (List V × V):=[(ZF,ZG),(ZH,ZI),(ZJ,ZK),(ZL,ZM),(ZN,ZO),(ZP,ZQ),(ZR,ZS),(ZT,ZU),(ZV,ZW),(ZX,ZY)]
theorem amJ:jJ (rG g) 200 138 ZZ:=⟨⟨by kernel_rfl,amz g⟩,⟨⟨by kernel_rfl,amA g⟩,⟨⟨by kernel_rfl,amB g⟩,⟨⟨by kernel_rfl,amC g⟩,⟨⟨by kernel_rfl,amD g⟩,⟨⟨by kernel_rfl,amE g⟩,⟨⟨by kernel_rfl,amF g⟩,⟨⟨by kernel_rfl,amG g⟩,⟨⟨by kernel_rfl,amH g⟩,⟨⟨by kernel_rfl,amI g⟩,trivial⟩⟩⟩⟩⟩⟩⟩⟩⟩⟩
def Kq:Nat->Option cc:=over (rG g) 138 (jI ZZ)
end
end Go.Abs.bA
