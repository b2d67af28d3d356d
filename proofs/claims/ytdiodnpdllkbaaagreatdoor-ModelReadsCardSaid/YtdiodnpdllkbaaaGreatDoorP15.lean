/- Texts of this claim, joined and written short by a program. -/
import Derived.Test.YtdiodnpdllkbaaaGreatDoorP14
import Derived.Test.YtdiodnpdllkbaaaGreatDoorP00
set_option linter.unusedVariables false
set_option linter.unusedSimpArgs false
set_option linter.unusedSectionVars false
set_option maxRecDepth 100000
namespace Go.Abs.bw
open Go Go.Abs Go.Proofs
noncomputable section
variable (g:Nat->Option Obj)
def Ux:List V:=[F6,Rl,KA]
def Uy:V:=Rm
theorem agw:cu (Dw g) 200 (.fn 357 [] []) Ux []=some (Uy,[],0):=by kernel_rfl
def Uz:List V:=[F6,Rn,KA]
def UA:V:=Rm
theorem agx:cu (Dw g) 200 (.fn 357 [] []) Uz []=some (UA,[],0):=by kernel_rfl
def UB:List (List V × V):=[(Ux,Uy),(Uz,UA)]
theorem agy:jf (Dw g) 200 357 UB:=⟨⟨by kernel_rfl,agw g⟩,⟨⟨by kernel_rfl,agx g⟩,trivial⟩⟩
def Hj:Nat->Option bY:=over (Dw g) 357 (je UB)
def UC:List V:=[uq,.cp,uq]
def UD:V:=.aU [uq,au 0]
theorem agz:cu (Hj g) 200 (.fn 187 [] []) UC []=some (UD,[],0):=by kernel_rfl
def UE:List (List V × V):=[(UC,UD)]
theorem agA:jf (Hj g) 200 187 UE:=⟨⟨by kernel_rfl,agz g⟩,trivial⟩
def kb:Nat->Option bY:=over (Hj g) 187 (je UE)
def UF:List V:=[Q2]
def UG:V:=au 1
theorem agB:cu (kb g) 200 (.fn 93 [] []) UF []=some (UG,[],0):=by kernel_rfl
def UH:List V:=[Q3]
def UI:V:=au 2
theorem agC:cu (kb g) 200 (.fn 93 [] []) UH []=some (UI,[],0):=by kernel_rfl
def UJ:List V:=[Q4]
def UK:V:=au 1
theorem agD:cu (kb g) 200 (.fn 93 [] []) UJ []=some (UK,[],0):=by kernel_rfl
def UL:List V:=[Q5]
def UM:V:=au 2
theorem agE:cu (kb g) 200 (.fn 93 [] []) UL []=some (UM,[],0):=by kernel_rfl
def UN:List V:=[Q6]
def UO:V:=au 3
theorem agF:cu (kb g) 200 (.fn 93 [] []) UN []=some (UO,[],0):=by kernel_rfl
def UP:List V:=[Q7]
def UQ:V:=au 4
theorem agG:cu (kb g) 200 (.fn 93 [] []) UP []=some (UQ,[],0):=by kernel_rfl
def UR:List V:=[Q8]
def US:V:=au 1
theorem agH:cu (kb g) 200 (.fn 93 [] []) UR []=some (US,[],0):=by kernel_rfl
def UT:List V:=[Q9]
def UU:V:=au 2
theorem agI:cu (kb g) 200 (.fn 93 [] []) UT []=some (UU,[],0):=by kernel_rfl
def UW:List V:=[Ra]
def UX:V:=au 3
theorem agJ:cu (kb g) 200 (.fn 93 [] []) UW []=some (UX,[],0):=by kernel_rfl
def UY:List V:=[Rb]
def UZ:V:=au 1
theorem agK:cu (kb g) 200 (.fn 93 [] []) UY []=some (UZ,[],0):=by kernel_rfl
def U0:List V:=[Rc]
def U1:V:=au 1
theorem agL:cu (kb g) 200 (.fn 93 [] []) U0 []=some (U1,[],0):=by kernel_rfl
def U2:List V:=[Rd]
def U3:V:=au 1
theorem agM:cu (kb g) 200 (.fn 93 [] []) U2 []=some (U3,[],0):=by kernel_rfl
def U4:List V:=[F6]
def U5:V:=au 2
theorem agN:cu (kb g) 200 (.fn 93 [] []) U4 []=some (U5,[],0):=by kernel_rfl
def U6:List V:=[Rf]
def U7:V:=au 3
theorem agO:cu (kb g) 200 (.fn 93 [] []) U6 []=some (U7,[],0):=by kernel_rfl
def U8:List V:=[Rg]
def U9:V:=au 1
theorem agP:cu (kb g) 200 (.fn 93 [] []) U8 []=some (U9,[],0):=by kernel_rfl
def Va:List V:=[Rh]
def Vb:V:=au 2
theorem agQ:cu (kb g) 200 (.fn 93 [] []) Va []=some (Vb,[],0):=by kernel_rfl
def Vc:List V:=[Ri]
def Vd:V:=au 3
theorem agR:cu (kb g) 200 (.fn 93 [] []) Vc []=some (Vd,[],0):=by kernel_rfl
def Ve:List V:=[F7]
def Vf:V:=au 4
theorem agS:cu (kb g) 200 (.fn 93 [] []) Ve []=some (Vf,[],0):=by kernel_rfl
def Vg:List V:=[Rj]
def Vh:V:=au 5
theorem agT:cu (kb g) 200 (.fn 93 [] []) Vg []=some (Vh,[],0):=by kernel_rfl
def Vi:List V:=[uq]
def Vj:V:=au 6
theorem agU:cu (kb g) 200 (.fn 93 [] []) Vi []=some (Vj,[],0):=by kernel_rfl
def Vk:List (List V × V):=[(UF,UG),(UH,UI),(UJ,UK),(UL,UM),(UN,UO),(UP,UQ),(UR,US),(UT,UU),(UW,UX),(UY,UZ),(U0,U1),(U2,U3),(U4,U5),(U6,U7),(U8,U9),(Va,Vb),(Vc,Vd),(Ve,Vf),(Vg,Vh),(Vi,Vj)]
theorem agV:jf (kb g) 200 93 Vk:=⟨⟨by kernel_rfl,agB g⟩,⟨⟨by kernel_rfl,agC g⟩,⟨⟨by kernel_rfl,agD g⟩,⟨⟨by kernel_rfl,agE g⟩,⟨⟨by kernel_rfl,agF g⟩,⟨⟨by kernel_rfl,agG g⟩,⟨⟨by kernel_rfl,agH g⟩,⟨⟨by kernel_rfl,agI g⟩,⟨⟨by kernel_rfl,agJ g⟩,⟨⟨by kernel_rfl,agK g⟩,⟨⟨by kernel_rfl,agL g⟩,⟨⟨by kernel_rfl,agM g⟩,⟨⟨by kernel_rfl,agN g⟩,⟨⟨by kernel_rfl,agO g⟩,⟨⟨by kernel_rfl,agP g⟩,⟨⟨by kernel_rfl,agQ g⟩,⟨⟨by kernel_rfl,agR g⟩,⟨⟨by kernel_rfl,agS g⟩,⟨⟨by kernel_rfl,agT g⟩,⟨⟨by kernel_rfl,agU g⟩,trivial⟩⟩⟩⟩⟩⟩⟩⟩⟩⟩⟩⟩⟩⟩⟩⟩⟩⟩⟩⟩
def Hk:Nat->Option bY:=over (kb g) 93 (je Vk)
end
end Go.Abs.bw
