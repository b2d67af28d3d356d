/- Texts of this claim, joined and written short by a program. -/
import Derived.Test.YtgkcikhegodchaaGreatDoorP12
import Derived.Test.YtgkcikhegodchaaGreatDoorP00
set_option linter.unusedVariables false
set_option linter.unusedSimpArgs false
set_option linter.unusedSectionVars false
set_option maxRecDepth 100000
namespace Go.Abs.bA
open Go Go.Abs Go.Proofs
noncomputable section
variable (g:Nat->Option Obj)
def Z6:List V:=[x2,.cu,x2]
def Z7:V:=.aF [x2,aj 0]
theorem amO:bN (Ks g) 200 (.fn 213 [] []) Z6 []=some (Z7,[],0):=by kernel_rfl
def Z8:List (List V × V):=[(Z6,Z7)]
theorem amP:jJ (Ks g) 200 213 Z8:=⟨⟨by kernel_rfl,amO g⟩,trivial⟩
def iq:Nat->Option cc:=over (Ks g) 213 (jI Z8)
def Z9:List V:=[VG]
def aaa:V:=aj 1
theorem amQ:bN (iq g) 200 (.fn 106 [] []) Z9 []=some (aaa,[],0):=by kernel_rfl
def aab:List V:=[VH]
def aac:V:=aj 2
theorem amR:bN (iq g) 200 (.fn 106 [] []) aab []=some (aac,[],0):=by kernel_rfl
def aad:List V:=[VI]
def aae:V:=aj 1
theorem amS:bN (iq g) 200 (.fn 106 [] []) aad []=some (aae,[],0):=by kernel_rfl
def aaf:List V:=[VJ]
def aag:V:=aj 2
theorem amT:bN (iq g) 200 (.fn 106 [] []) aaf []=some (aag,[],0):=by kernel_rfl
def aah:List V:=[VK]
def aai:V:=aj 3
theorem amU:bN (iq g) 200 (.fn 106 [] []) aah []=some (aai,[],0):=by kernel_rfl
def aaj:List V:=[VL]
def aak:V:=aj 4
theorem amV:bN (iq g) 200 (.fn 106 [] []) aaj []=some (aak,[],0):=by kernel_rfl
def aal:List V:=[VM]
def aam:V:=aj 1
theorem amW:bN (iq g) 200 (.fn 106 [] []) aal []=some (aam,[],0):=by kernel_rfl
def aan:List V:=[VN]
def aao:V:=aj 1
theorem amX:bN (iq g) 200 (.fn 106 [] []) aan []=some (aao,[],0):=by kernel_rfl
def aap:List V:=[VO]
def aaq:V:=aj 1
theorem amY:bN (iq g) 200 (.fn 106 [] []) aap []=some (aaq,[],0):=by kernel_rfl
def aar:List V:=[VP]
def aas:V:=aj 2
theorem amZ:bN (iq g) 200 (.fn 106 [] []) aar []=some (aas,[],0):=by kernel_rfl
def aat:List V:=[VQ]
def aau:V:=aj 3
theorem am0:bN (iq g) 200 (.fn 106 [] []) aat []=some (aau,[],0):=by kernel_rfl
def aav:List V:=[VR]
def aaw:V:=aj 1
theorem am1:bN (iq g) 200 (.fn 106 [] []) aav []=some (aaw,[],0):=by kernel_rfl
def aax:List V:=[VS]
def aay:V:=aj 1
theorem am2:bN (iq g) 200 (.fn 106 [] []) aax []=some (aay,[],0):=by kernel_rfl
def aaz:List V:=[VT]
def aaA:V:=aj 1
theorem am3:bN (iq g) 200 (.fn 106 [] []) aaz []=some (aaA,[],0):=by kernel_rfl
def aaB:List V:=[VU]
def aaC:V:=aj 2
theorem am4:bN (iq g) 200 (.fn 106 [] []) aaB []=some (aaC,[],0):=by kernel_rfl
def aaD:List V:=[VV]
def aaE:V:=aj 3
theorem am5:bN (iq g) 200 (.fn 106 [] []) aaD []=some (aaE,[],0):=by kernel_rfl
def aaF:List V:=[VW]
def aaG:V:=aj 1
theorem am6:bN (iq g) 200 (.fn 106 [] []) aaF []=some (aaG,[],0):=by kernel_rfl
def aaH:List V:=[VX]
def aaI:V:=aj 2
theorem am7:bN (iq g) 200 (.fn 106 [] []) aaH []=some (aaI,[],0):=by kernel_rfl
def aaJ:List V:=[VY]
def aaK:V:=aj 4
theorem am8:bN (iq g) 200 (.fn 106 [] []) aaJ []=some (aaK,[],0):=by kernel_rfl
def aaL:List V:=[NZ]
def aaM:V:=aj 1
theorem am9:bN (iq g) 200 (.fn 106 [] []) aaL []=some (aaM,[],0):=by kernel_rfl
def aaN:List V:=[VZ]
def aaO:V:=aj 1
theorem ana:bN (iq g) 200 (.fn 106 [] []) aaN []=some (aaO,[],0):=by kernel_rfl
def aaP:List V:=[V0]
def aaQ:V:=aj 2
theorem anb:bN (iq g) 200 (.fn 106 [] []) aaP []=some (aaQ,[],0):=by kernel_rfl
def aaR:List V:=[V1]
def aaS:V:=aj 5
theorem anc:bN (iq g) 200 (.fn 106 [] []) aaR []=some (aaS,[],0):=by kernel_rfl
def aaT:List V:=[V2]
def aaU:V:=aj 1
theorem ane:bN (iq g) 200 (.fn 106 [] []) aaT []=some (aaU,[],0):=by kernel_rfl
def aaV:List V:=[V3]
def aaW:V:=aj 2
theorem anf:bN (iq g) 200 (.fn 106 [] []) aaV []=some (aaW,[],0):=by kernel_rfl
def aaX:List V:=[V4]
def aaY:V:=aj 6
theorem ang:bN (iq g) 200 (.fn 106 [] []) aaX []=some (aaY,[],0):=by kernel_rfl
def aaZ:List V:=[V5]
def aa0:V:=aj 7
theorem anh:bN (iq g) 200 (.fn 106 [] []) aaZ []=some (aa0,[],0):=by kernel_rfl
def aa1:List V:=[x2]
def aa2:V:=aj 8
theorem ani:bN (iq g) 200 (.fn 106 [] []) aa1 []=some (aa2,[],0):=by kernel_rfl
def aa3:List (List V × V):=[(Z9,aaa),(aab,aac),(aad,aae),(aaf,aag),(aah,aai),(aaj,aak),(aal,aam),(aan,aao),(aap,aaq),(aar,aas),(aat,aau),(aav,aaw),(aax,aay),(aaz,aaA),(aaB,aaC),(aaD,aaE),(aaF,aaG),(aaH,aaI),(aaJ,aaK),(aaL,aaM),(aaN,aaO),(aaP,aaQ),(aaR,aaS),(aaT,aaU),(aaV,aaW),(aaX,aaY),(aaZ,aa0),(aa1,aa2)]
theorem anj:jJ (iq g) 200 106 aa3:=⟨⟨by kernel_rfl,amQ g⟩,⟨⟨by kernel_rfl,amR g⟩,⟨⟨by kernel_rfl,amS g⟩,⟨⟨by kernel_rfl,amT g⟩,⟨⟨by kernel_rfl,amU g⟩,⟨⟨by kernel_rfl,amV g⟩,⟨⟨by kernel_rfl,amW g⟩,⟨⟨by kernel_rfl,amX g⟩,⟨⟨by kernel_rfl,amY g⟩,⟨⟨by kernel_rfl,amZ g⟩,⟨⟨by kernel_rfl,am0 g⟩,⟨⟨by kernel_rfl,am1 g⟩,⟨⟨by kernel_rfl,am2 g⟩,⟨⟨by kernel_rfl,am3 g⟩,⟨⟨by kernel_rfl,am4 g⟩,⟨⟨by kernel_rfl,am5 g⟩,⟨⟨by kernel_rfl,am6 g⟩,⟨⟨by kernel_rfl,am7 g⟩,⟨⟨by kernel_rfl,am8 g⟩,⟨⟨by kernel_rfl,am9 g⟩,⟨⟨by kernel_rfl,ana g⟩,⟨⟨by kernel_rfl,anb g⟩,⟨⟨by kernel_rfl,anc g⟩,⟨⟨by kernel_rfl,ane g⟩,⟨⟨by kernel_rfl,anf g⟩,⟨⟨by kernel_rfl,ang g⟩,⟨⟨by kernel_rfl,anh g⟩,⟨⟨by kernel_rfl,ani g⟩,trivial⟩⟩⟩⟩⟩⟩⟩⟩⟩⟩⟩⟩⟩⟩⟩⟩⟩⟩⟩⟩⟩⟩⟩⟩⟩⟩⟩⟩
def Kt:Nat->Option cc:=over (iq g) 106 (jI aa3)
end
end Go.Abs.bA
