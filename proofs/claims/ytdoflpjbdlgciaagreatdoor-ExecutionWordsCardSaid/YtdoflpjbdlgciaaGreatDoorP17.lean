/- Texts of this claim, joined and written short by a program. -/
import Derived.Test.YtdoflpjbdlgciaaGreatDoorP16
import Derived.Test.YtdoflpjbdlgciaaGreatDoorP00
set_option linter.unusedVariables false
set_option linter.unusedSimpArgs false
set_option linter.unusedSectionVars false
set_option maxRecDepth 100000
namespace Go.Abs.bZ
open Go Go.Abs Go.Proofs
noncomputable section
variable (g:Nat->Option Obj)
def ZR:List V:=[yH,pL]
def ZS:V:=.bool true
theorem amM:bm (hO g) 200 (.fn 104 [] []) ZR []=some (ZS,[],0):=by kernel_rfl
def ZT:List V:=[yI,pL]
def ZU:V:=.bool true
theorem amN:bm (hO g) 200 (.fn 104 [] []) ZT []=some (ZU,[],0):=by kernel_rfl
def ZV:List V:=[BA,pL]
def ZW:V:=.bool true
theorem amO:bm (hO g) 200 (.fn 104 [] []) ZV []=some (ZW,[],0):=by kernel_rfl
def ZX:List V:=[BB,pL]
def ZY:V:=.bool true
theorem amP:bm (hO g) 200 (.fn 104 [] []) ZX []=some (ZY,[],0):=by kernel_rfl
def ZZ:List V:=[D8,pL]
def Z0:V:=.bool true
theorem amQ:bm (hO g) 200 (.fn 104 [] []) ZZ []=some (Z0,[],0):=by kernel_rfl
def Z1:List V:=[yH,qz]
def Z2:V:=.bool true
theorem amR:bm (hO g) 200 (.fn 104 [] []) Z1 []=some (Z2,[],0):=by kernel_rfl
def Z3:List V:=[yI,qz]
def Z4:V:=.bool true
theorem amS:bm (hO g) 200 (.fn 104 [] []) Z3 []=some (Z4,[],0):=by kernel_rfl
def Z5:List V:=[BA,qz]
def Z6:V:=.bool true
theorem amT:bm (hO g) 200 (.fn 104 [] []) Z5 []=some (Z6,[],0):=by kernel_rfl
def Z7:List V:=[BB,qz]
def Z8:V:=.bool true
theorem amU:bm (hO g) 200 (.fn 104 [] []) Z7 []=some (Z8,[],0):=by kernel_rfl
def Z9:List V:=[D8,qz]
def aaa:V:=.bool true
theorem amV:bm (hO g) 200 (.fn 104 [] []) Z9 []=some (aaa,[],0):=by kernel_rfl
def aab:List V:=[yH,D9]
def aac:V:=.bool true
theorem amW:bm (hO g) 200 (.fn 104 [] []) aab []=some (aac,[],0):=by kernel_rfl
def aad:List V:=[yI,D9]
def aae:V:=.bool true
theorem amX:bm (hO g) 200 (.fn 104 [] []) aad []=some (aae,[],0):=by kernel_rfl
def aaf:List V:=[BA,D9]
def aag:V:=.bool true
theorem amY:bm (hO g) 200 (.fn 104 [] []) aaf []=some (aag,[],0):=by kernel_rfl
def aah:List V:=[BB,D9]
def aai:V:=.bool true
theorem amZ:bm (hO g) 200 (.fn 104 [] []) aah []=some (aai,[],0):=by kernel_rfl
def aaj:List V:=[D8,D9]
def aak:V:=.bool false
theorem am0:bm (hO g) 200 (.fn 104 [] []) aaj []=some (aak,[],0):=by kernel_rfl
def aal:List V:=[NB,qz]
def aam:V:=.bool true
theorem am1:bm (hO g) 200 (.fn 104 [] []) aal []=some (aam,[],0):=by kernel_rfl
def aan:List V:=[yH,na]
def aao:V:=.bool true
theorem am2:bm (hO g) 200 (.fn 104 [] []) aan []=some (aao,[],0):=by kernel_rfl
def aap:List V:=[yI,na]
def aaq:V:=.bool true
theorem am3:bm (hO g) 200 (.fn 104 [] []) aap []=some (aaq,[],0):=by kernel_rfl
def aar:List V:=[BA,na]
def aas:V:=.bool true
theorem am4:bm (hO g) 200 (.fn 104 [] []) aar []=some (aas,[],0):=by kernel_rfl
def aat:List V:=[BB,na]
def aau:V:=.bool true
theorem am5:bm (hO g) 200 (.fn 104 [] []) aat []=some (aau,[],0):=by kernel_rfl
def aav:List V:=[D8,na]
def aaw:V:=.bool true
theorem am6:bm (hO g) 200 (.fn 104 [] []) aav []=some (aaw,[],0):=by kernel_rfl
def aax:List V:=[NB,pL]
def aay:V:=.bool false
theorem am7:bm (hO g) 200 (.fn 104 [] []) aax []=some (aay,[],0):=by kernel_rfl
def aaz:List V:=[yH,UF]
def aaA:V:=.bool true
theorem am8:bm (hO g) 200 (.fn 104 [] []) aaz []=some (aaA,[],0):=by kernel_rfl
def aaB:List V:=[yI,UF]
def aaC:V:=.bool false
theorem am9:bm (hO g) 200 (.fn 104 [] []) aaB []=some (aaC,[],0):=by kernel_rfl
def aaD:List V:=[yH,II]
def aaE:V:=.bool true
theorem ana:bm (hO g) 200 (.fn 104 [] []) aaD []=some (aaE,[],0):=by kernel_rfl
def aaF:List V:=[yI,II]
def aaG:V:=.bool true
theorem anb:bm (hO g) 200 (.fn 104 [] []) aaF []=some (aaG,[],0):=by kernel_rfl
def aaH:List V:=[BA,II]
def aaI:V:=.bool true
theorem anc:bm (hO g) 200 (.fn 104 [] []) aaH []=some (aaI,[],0):=by kernel_rfl
def aaJ:List V:=[BB,II]
def aaK:V:=.bool false
theorem ane:bm (hO g) 200 (.fn 104 [] []) aaJ []=some (aaK,[],0):=by kernel_rfl
def aaL:List V:=[NB,na]
def aaM:V:=.bool false
theorem anf:bm (hO g) 200 (.fn 104 [] []) aaL []=some (aaM,[],0):=by kernel_rfl
def aaN:List (List V × V):=[(ZR,ZS),(ZT,ZU),(ZV,ZW),(ZX,ZY),(ZZ,Z0),(Z1,Z2),(Z3,Z4),(Z5,Z6),(Z7,Z8),(Z9,aaa),(aab,aac),(aad,aae),(aaf,aag),(aah,aai),(aaj,aak),(aal,aam),(aan,aao),(aap,aaq),(aar,aas),(aat,aau),(aav,aaw),(aax,aay),(aaz,aaA),(aaB,aaC),(aaD,aaE),(aaF,aaG),(aaH,aaI),(aaJ,aaK),(aaL,aaM)]
theorem ang:hq (hO g) 200 104 aaN:=⟨⟨by kernel_rfl,amM g⟩,⟨⟨by kernel_rfl,amN g⟩,⟨⟨by kernel_rfl,amO g⟩,⟨⟨by kernel_rfl,amP g⟩,⟨⟨by kernel_rfl,amQ g⟩,⟨⟨by kernel_rfl,amR g⟩,⟨⟨by kernel_rfl,amS g⟩,⟨⟨by kernel_rfl,amT g⟩,⟨⟨by kernel_rfl,amU g⟩,⟨⟨by kernel_rfl,amV g⟩,⟨⟨by kernel_rfl,amW g⟩,⟨⟨by kernel_rfl,amX g⟩,⟨⟨by kernel_rfl,amY g⟩,⟨⟨by kernel_rfl,amZ g⟩,⟨⟨by kernel_rfl,am0 g⟩,⟨⟨by kernel_rfl,am1 g⟩,⟨⟨by kernel_rfl,am2 g⟩,⟨⟨by kernel_rfl,am3 g⟩,⟨⟨by kernel_rfl,am4 g⟩,⟨⟨by kernel_rfl,am5 g⟩,⟨⟨by kernel_rfl,am6 g⟩,⟨⟨by kernel_rfl,am7 g⟩,⟨⟨by kernel_rfl,am8 g⟩,⟨⟨by kernel_rfl,am9 g⟩,⟨⟨by kernel_rfl,ana g⟩,⟨⟨by kernel_rfl,anb g⟩,⟨⟨by kernel_rfl,anc g⟩,⟨⟨by kernel_rfl,ane g⟩,⟨⟨by kernel_rfl,anf g⟩,trivial⟩⟩⟩⟩⟩⟩⟩⟩⟩⟩⟩⟩⟩⟩⟩⟩⟩⟩⟩⟩⟩⟩⟩⟩⟩⟩⟩⟩⟩
def Fk:Nat->Option cb:=over (hO g) 104 (hk aaN)
def aaO:List V:=[mZ,pL]
def aaP:V:=.bool true
theorem anh:bm (Fk g) 200 (.fn 36 [] []) aaO []=some (aaP,[],0):=by kernel_rfl
def aaQ:List V:=[mZ,na]
def aaR:V:=.bool true
theorem ani:bm (Fk g) 200 (.fn 36 [] []) aaQ []=some (aaR,[],0):=by kernel_rfl
def aaS:List (List V × V):=[(aaO,aaP),(aaQ,aaR)]
theorem anj:hq (Fk g) 200 36 aaS:=⟨⟨by kernel_rfl,anh g⟩,⟨⟨by kernel_rfl,ani g⟩,trivial⟩⟩
def rW:Nat->Option cb:=over (Fk g) 36 (hk aaS)
def aaT:List V:=[mZ,J 0,pL]
def aaU:V:=.bd [qz,IJ]
theorem ank:bm (rW g) 200 (.fn 40 [] []) aaT []=some (aaU,[],0):=by kernel_rfl
def aaV:List V:=[mZ,J 1,qz]
def aaW:V:=.bd [qz,IK]
theorem anl:bm (rW g) 200 (.fn 40 [] []) aaV []=some (aaW,[],0):=by kernel_rfl
def aaX:List V:=[mZ,J 2,qz]
def aaY:V:=UG
theorem anm:bm (rW g) 200 (.fn 40 [] []) aaX []=some (aaY,[],0):=by kernel_rfl
def aaZ:List V:=[mZ,J 1,pL]
def aa0:V:=UG
theorem ann:bm (rW g) 200 (.fn 40 [] []) aaZ []=some (aa0,[],0):=by kernel_rfl
def aa1:List V:=[mZ,J 2,pL]
def aa2:V:=.bd [pL,IL]
theorem ano:bm (rW g) 200 (.fn 40 [] []) aa1 []=some (aa2,[],0):=by kernel_rfl
def aa3:List V:=[mZ,J 0,qz]
def aa4:V:=.bd [qz,.agg [J 2,J 1]]
theorem anp:bm (rW g) 200 (.fn 40 [] []) aa3 []=some (aa4,[],0):=by kernel_rfl
def aa5:List V:=[mZ,J 0,na]
def aa6:V:=.bd [na,IK]
theorem anq:bm (rW g) 200 (.fn 40 [] []) aa5 []=some (aa6,[],0):=by kernel_rfl
def aa7:List V:=[mZ,J 1,na]
def aa8:V:=.bd [na,.agg [J 2,J 3]]
theorem anr:bm (rW g) 200 (.fn 40 [] []) aa7 []=some (aa8,[],0):=by kernel_rfl
def aa9:List V:=[mZ,J 2,na]
def aba:V:=.bd [na,IL]
theorem ans:bm (rW g) 200 (.fn 40 [] []) aa9 []=some (aba,[],0):=by kernel_rfl
def abb:List (List V × V):=[(aaT,aaU),(aaV,aaW),(aaX,aaY),(aaZ,aa0),(aa1,aa2),(aa3,aa4),(aa5,aa6),(aa7,aa8),(aa9,aba)]
theorem ant:hq (rW g) 200 40 abb:=⟨⟨by kernel_rfl,ank g⟩,⟨⟨by kernel_rfl,anl g⟩,⟨⟨by kernel_rfl,anm g⟩,⟨⟨by kernel_rfl,ann g⟩,⟨⟨by kernel_rfl,ano g⟩,⟨⟨by kernel_rfl,anp g⟩,⟨⟨by kernel_rfl,anq g⟩,⟨⟨by kernel_rfl,anr g⟩,⟨⟨by kernel_rfl,ans g⟩,trivial⟩⟩⟩⟩⟩⟩⟩⟩⟩
def Fl:Nat->Option cb:=over (rW g) 40 (hk abb)
def abc:List V:=[mZ,pL,.list 1 [J 0,J 1,J 2]]
def abd:V:=.bd [na,.list 2 [IJ,IK,IJ],J 0]
theorem anu:bm (Fl g) 200 (.fn 11 [] []) abc []=some (abd,[],0):=by kernel_rfl
def abe:List V:=[mZ,na,.list 1 [J 2]]
def abf:V:=.bd [na,.list 2 [IL],J 0]
theorem anv:bm (Fl g) 200 (.fn 11 [] []) abe []=some (abf,[],0):=by kernel_rfl
def m11:List (List V × V):=[(abc,abd),(abe,abf)]
theorem anw:hq (Fl g) 200 11 m11:=⟨⟨by kernel_rfl,anu g⟩,⟨⟨by kernel_rfl,anv g⟩,trivial⟩⟩
def J4:Nat->Option cb:=over (Fl g) 11 (hk m11)
def abg:List V:=[mZ,pL,J 2]
def abh:V:=.bd [.list 1 [pL,qz,na],J 0]
theorem anx:bm (J4 g) 200 (.fn 12 [] []) abg []=some (abh,[],0):=by kernel_rfl
def m12:List (List V × V):=[(abg,abh)]
theorem anz:hq (J4 g) 200 12 m12:=⟨⟨by kernel_rfl,anx g⟩,trivial⟩
def Fm:Nat->Option cb:=over (J4 g) 12 (hk m12)
def abj:List V:=[mZ,UH,IK]
def abk:V:=.str [118,105,111,108,97,116,101,115,32,105,58,32,114,40,48,41,32,43,32,114,40,49,41,32,60,61,32,49]
theorem anA:bm (Fm g) 200 (.fn 7 [] []) abj []=some (abk,[],0):=by kernel_rfl
def abl:List V:=[mZ,UI,IL]
def abm:V:=.str [110,101,101,100,115,32,45,114,40,48,41,32,60,61,32,45,49]
theorem anB:bm (Fm g) 200 (.fn 7 [] []) abl []=some (abm,[],0):=by kernel_rfl
def m7:List (List V × V):=[(abj,abk),(abl,abm)]
theorem anC:hq (Fm g) 200 7 m7:=⟨⟨by kernel_rfl,anA g⟩,⟨⟨by kernel_rfl,anB g⟩,trivial⟩⟩
def PY:Nat->Option cb:=over (Fm g) 7 (hk m7)
theorem anD:bm (PY g) 200 (.fn 4 [] []) [] []=some (.bool true,[],0):=by kernel_rfl
end
end Go.Abs.bZ
