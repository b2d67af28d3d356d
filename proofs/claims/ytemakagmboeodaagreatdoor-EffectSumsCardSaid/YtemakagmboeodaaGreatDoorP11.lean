/- Texts of this claim, joined and written short by a program. -/
import Derived.Test.YtemakagmboeodaaGreatDoorP10
import Derived.Test.YtemakagmboeodaaGreatDoorP00
set_option linter.unusedVariables false
set_option linter.unusedSimpArgs false
set_option linter.unusedSectionVars false
set_option maxRecDepth 100000
namespace Go.Abs.cb
open Go Go.Abs Go.Proofs
noncomputable section
variable (g:Nat->Option Obj)
def Oc:List V:=[nh,J 26]
def Od:V:=Jw
theorem aac:aS (wE g) 200 (.fn 198 [] []) Oc []=some (Od,[],0):=by kernel_rfl
def Oe:List V:=[nh,J 31]
def Of:V:=Jw
theorem aad:aS (wE g) 200 (.fn 198 [] []) Oe []=some (Of,[],0):=by kernel_rfl
def Og:List V:=[nh,J 47]
def Oh:V:=.list 1 [J 6]
theorem aae:aS (wE g) 200 (.fn 198 [] []) Og []=some (Oh,[],0):=by kernel_rfl
def Oi:List (List V × V):=[(Oc,Od),(Oe,Of),(Og,Oh)]
theorem aaf:iS (wE g) 200 198 Oi:=⟨⟨by kernel_rfl,aac g⟩,⟨⟨by kernel_rfl,aad g⟩,⟨⟨by kernel_rfl,aae g⟩,trivial⟩⟩⟩
def me:Nat->Option bQ:=over (wE g) 198 (iR Oi)
def Oj:List V:=[tg,DH,ni]
def Ol:V:=xB
theorem aag:aS (me g) 200 (.fn 265 [] []) Oj []=some (Ol,[],0):=by kernel_rfl
def Om:List V:=[xz,DH,ni]
def On:V:=DI
theorem aah:aS (me g) 200 (.fn 265 [] []) Om []=some (On,[],0):=by kernel_rfl
def Oo:List V:=[xA,Jz,ni]
def Oq:V:=DJ
theorem aai:aS (me g) 200 (.fn 265 [] []) Oo []=some (Oq,[],0):=by kernel_rfl
def Ot:List V:=[tg,DH,ni]
def Ou:V:=xB
theorem aaj:aS (me g) 200 (.fn 265 [] []) Ot []=some (Ou,[],0):=by kernel_rfl
def Ov:List V:=[tg,JB,ni]
def Ow:V:=xB
theorem aak:aS (me g) 200 (.fn 265 [] []) Ov []=some (Ow,[],0):=by kernel_rfl
def Ox:List V:=[xz,JB,ni]
def Oy:V:=DI
theorem aal:aS (me g) 200 (.fn 265 [] []) Ox []=some (Oy,[],0):=by kernel_rfl
def Oz:List V:=[xA,Jz,ni]
def OA:V:=DJ
theorem aam:aS (me g) 200 (.fn 265 [] []) Oz []=some (OA,[],0):=by kernel_rfl
def OB:List V:=[tg,JC,ni]
def OC:V:=xB
theorem aan:aS (me g) 200 (.fn 265 [] []) OB []=some (OC,[],0):=by kernel_rfl
def OD:List V:=[tg,.list 5 [DK,JA],ni]
def OE:V:=xB
theorem aao:aS (me g) 200 (.fn 265 [] []) OD []=some (OE,[],0):=by kernel_rfl
def OG:List V:=[xz,JC,ni]
def OH:V:=DI
theorem aap:aS (me g) 200 (.fn 265 [] []) OG []=some (OH,[],0):=by kernel_rfl
def OI:List V:=[xA,.list 5 [DK],ni]
def OJ:V:=DJ
theorem aaq:aS (me g) 200 (.fn 265 [] []) OI []=some (OJ,[],0):=by kernel_rfl
def OK:List (List V × V):=[(Oj,Ol),(Om,On),(Oo,Oq),(Ot,Ou),(Ov,Ow),(Ox,Oy),(Oz,OA),(OB,OC),(OD,OE),(OG,OH),(OI,OJ)]
theorem aar:iS (me g) 200 265 OK:=⟨⟨by kernel_rfl,aag g⟩,⟨⟨by kernel_rfl,aah g⟩,⟨⟨by kernel_rfl,aai g⟩,⟨⟨by kernel_rfl,aaj g⟩,⟨⟨by kernel_rfl,aak g⟩,⟨⟨by kernel_rfl,aal g⟩,⟨⟨by kernel_rfl,aam g⟩,⟨⟨by kernel_rfl,aan g⟩,⟨⟨by kernel_rfl,aao g⟩,⟨⟨by kernel_rfl,aap g⟩,⟨⟨by kernel_rfl,aaq g⟩,trivial⟩⟩⟩⟩⟩⟩⟩⟩⟩⟩⟩
def Bo:Nat->Option bQ:=over (me g) 265 (iR OK)
end
end Go.Abs.cb
