/- Texts of this claim, joined and written short by a program. -/
import Derived.Test.YtonmjjfciemcoaaGreatDoorP16
import Derived.Test.YtonmjjfciemcoaaGreatDoorP00
set_option linter.unusedVariables false
set_option linter.unusedSimpArgs false
set_option linter.unusedSectionVars false
set_option maxRecDepth 100000
namespace Go.Abs.bz
open Go Go.Abs Go.Proofs
noncomputable section
variable (g:Nat->Option Obj)
def acn:List V:=[zX,qj]
def aco:V:=.bool true
theorem aqp:bm (hR g) 200 (.fn 50 [] []) acn []=some (aco,[],0):=by kernel_rfl
def acp:List V:=[zY,qj]
def acq:V:=.bool true
theorem aqq:bm (hR g) 200 (.fn 50 [] []) acp []=some (acq,[],0):=by kernel_rfl
def acr:List V:=[CZ,qj]
def acs:V:=.bool true
theorem aqr:bm (hR g) 200 (.fn 50 [] []) acr []=some (acs,[],0):=by kernel_rfl
def acu:List V:=[C0,qj]
def acv:V:=.bool true
theorem aqs:bm (hR g) 200 (.fn 50 [] []) acu []=some (acv,[],0):=by kernel_rfl
def acw:List V:=[FO,qj]
def acx:V:=.bool true
theorem aqt:bm (hR g) 200 (.fn 50 [] []) acw []=some (acx,[],0):=by kernel_rfl
def acy:List V:=[zX,q4]
def acz:V:=.bool true
theorem aqu:bm (hR g) 200 (.fn 50 [] []) acy []=some (acz,[],0):=by kernel_rfl
def acA:List V:=[zY,q4]
def acB:V:=.bool true
theorem aqv:bm (hR g) 200 (.fn 50 [] []) acA []=some (acB,[],0):=by kernel_rfl
def acC:List V:=[CZ,q4]
def acD:V:=.bool true
theorem aqw:bm (hR g) 200 (.fn 50 [] []) acC []=some (acD,[],0):=by kernel_rfl
def acE:List V:=[C0,q4]
def acF:V:=.bool true
theorem aqx:bm (hR g) 200 (.fn 50 [] []) acE []=some (acF,[],0):=by kernel_rfl
def acG:List V:=[FO,q4]
def acH:V:=.bool true
theorem aqy:bm (hR g) 200 (.fn 50 [] []) acG []=some (acH,[],0):=by kernel_rfl
def acI:List V:=[zX,FP]
def acJ:V:=.bool true
theorem aqz:bm (hR g) 200 (.fn 50 [] []) acI []=some (acJ,[],0):=by kernel_rfl
def acK:List V:=[zY,FP]
def acL:V:=.bool true
theorem aqA:bm (hR g) 200 (.fn 50 [] []) acK []=some (acL,[],0):=by kernel_rfl
def acM:List V:=[CZ,FP]
def acN:V:=.bool true
theorem aqB:bm (hR g) 200 (.fn 50 [] []) acM []=some (acN,[],0):=by kernel_rfl
def acO:List V:=[C0,FP]
def acP:V:=.bool true
theorem aqC:bm (hR g) 200 (.fn 50 [] []) acO []=some (acP,[],0):=by kernel_rfl
def acQ:List V:=[FO,FP]
def acR:V:=.bool false
theorem aqD:bm (hR g) 200 (.fn 50 [] []) acQ []=some (acR,[],0):=by kernel_rfl
def acS:List V:=[OT,q4]
def acT:V:=.bool true
theorem aqE:bm (hR g) 200 (.fn 50 [] []) acS []=some (acT,[],0):=by kernel_rfl
def acU:List V:=[zX,ni]
def acV:V:=.bool true
theorem aqF:bm (hR g) 200 (.fn 50 [] []) acU []=some (acV,[],0):=by kernel_rfl
def acW:List V:=[zY,ni]
def acX:V:=.bool true
theorem aqG:bm (hR g) 200 (.fn 50 [] []) acW []=some (acX,[],0):=by kernel_rfl
def acY:List V:=[CZ,ni]
def acZ:V:=.bool true
theorem aqH:bm (hR g) 200 (.fn 50 [] []) acY []=some (acZ,[],0):=by kernel_rfl
def ac0:List V:=[C0,ni]
def ac1:V:=.bool true
theorem aqI:bm (hR g) 200 (.fn 50 [] []) ac0 []=some (ac1,[],0):=by kernel_rfl
def ac2:List V:=[FO,ni]
def ac3:V:=.bool true
theorem aqJ:bm (hR g) 200 (.fn 50 [] []) ac2 []=some (ac3,[],0):=by kernel_rfl
def ac4:List V:=[OT,qj]
def ac5:V:=.bool false
theorem aqK:bm (hR g) 200 (.fn 50 [] []) ac4 []=some (ac5,[],0):=by kernel_rfl
def ac6:List V:=[zX,Xd]
def ac7:V:=.bool true
theorem aqL:bm (hR g) 200 (.fn 50 [] []) ac6 []=some (ac7,[],0):=by kernel_rfl
def ac8:List V:=[zY,Xd]
def ac9:V:=.bool false
theorem aqM:bm (hR g) 200 (.fn 50 [] []) ac8 []=some (ac9,[],0):=by kernel_rfl
def ada:List V:=[zX,Kw]
def adb:V:=.bool true
theorem aqN:bm (hR g) 200 (.fn 50 [] []) ada []=some (adb,[],0):=by kernel_rfl
def ade:List V:=[zY,Kw]
def adf:V:=.bool true
theorem aqO:bm (hR g) 200 (.fn 50 [] []) ade []=some (adf,[],0):=by kernel_rfl
def adg:List V:=[CZ,Kw]
def adh:V:=.bool true
theorem aqP:bm (hR g) 200 (.fn 50 [] []) adg []=some (adh,[],0):=by kernel_rfl
def adi:List V:=[C0,Kw]
def adj:V:=.bool false
theorem aqQ:bm (hR g) 200 (.fn 50 [] []) adi []=some (adj,[],0):=by kernel_rfl
def adk:List V:=[OT,ni]
def adl:V:=.bool false
theorem aqR:bm (hR g) 200 (.fn 50 [] []) adk []=some (adl,[],0):=by kernel_rfl
def adm:List (List V × V):=[(acn,aco),(acp,acq),(acr,acs),(acu,acv),(acw,acx),(acy,acz),(acA,acB),(acC,acD),(acE,acF),(acG,acH),(acI,acJ),(acK,acL),(acM,acN),(acO,acP),(acQ,acR),(acS,acT),(acU,acV),(acW,acX),(acY,acZ),(ac0,ac1),(ac2,ac3),(ac4,ac5),(ac6,ac7),(ac8,ac9),(ada,adb),(ade,adf),(adg,adh),(adi,adj),(adk,adl)]
theorem aqS:hC (hR g) 200 50 adm:=⟨⟨by kernel_rfl,aqp g⟩,⟨⟨by kernel_rfl,aqq g⟩,⟨⟨by kernel_rfl,aqr g⟩,⟨⟨by kernel_rfl,aqs g⟩,⟨⟨by kernel_rfl,aqt g⟩,⟨⟨by kernel_rfl,aqu g⟩,⟨⟨by kernel_rfl,aqv g⟩,⟨⟨by kernel_rfl,aqw g⟩,⟨⟨by kernel_rfl,aqx g⟩,⟨⟨by kernel_rfl,aqy g⟩,⟨⟨by kernel_rfl,aqz g⟩,⟨⟨by kernel_rfl,aqA g⟩,⟨⟨by kernel_rfl,aqB g⟩,⟨⟨by kernel_rfl,aqC g⟩,⟨⟨by kernel_rfl,aqD g⟩,⟨⟨by kernel_rfl,aqE g⟩,⟨⟨by kernel_rfl,aqF g⟩,⟨⟨by kernel_rfl,aqG g⟩,⟨⟨by kernel_rfl,aqH g⟩,⟨⟨by kernel_rfl,aqI g⟩,⟨⟨by kernel_rfl,aqJ g⟩,⟨⟨by kernel_rfl,aqK g⟩,⟨⟨by kernel_rfl,aqL g⟩,⟨⟨by kernel_rfl,aqM g⟩,⟨⟨by kernel_rfl,aqN g⟩,⟨⟨by kernel_rfl,aqO g⟩,⟨⟨by kernel_rfl,aqP g⟩,⟨⟨by kernel_rfl,aqQ g⟩,⟨⟨by kernel_rfl,aqR g⟩,trivial⟩⟩⟩⟩⟩⟩⟩⟩⟩⟩⟩⟩⟩⟩⟩⟩⟩⟩⟩⟩⟩⟩⟩⟩⟩⟩⟩⟩⟩
def GZ:Nat->Option bU:=over (hR g) 50 (hB adm)
def adn:List V:=[nh,qj]
def ado:V:=.bool true
theorem aqT:bm (GZ g) 200 (.fn 21 [] []) adn []=some (ado,[],0):=by kernel_rfl
def adp:List V:=[nh,ni]
def adq:V:=.bool true
theorem aqU:bm (GZ g) 200 (.fn 21 [] []) adp []=some (adq,[],0):=by kernel_rfl
def m21:List (List V × V):=[(adn,ado),(adp,adq)]
theorem aqV:hC (GZ g) 200 21 m21:=⟨⟨by kernel_rfl,aqT g⟩,⟨⟨by kernel_rfl,aqU g⟩,trivial⟩⟩
def sH:Nat->Option bU:=over (GZ g) 21 (hB m21)
def adr:List V:=[nh,J 0,qj]
def ads:V:=.aU [q4,Kx]
theorem aqW:bm (sH g) 200 (.fn 45 [] []) adr []=some (ads,[],0):=by kernel_rfl
def adt:List V:=[nh,J 1,q4]
def adu:V:=.aU [q4,Ky]
theorem aqX:bm (sH g) 200 (.fn 45 [] []) adt []=some (adu,[],0):=by kernel_rfl
def adv:List V:=[nh,J 2,q4]
def adw:V:=Xe
theorem aqY:bm (sH g) 200 (.fn 45 [] []) adv []=some (adw,[],0):=by kernel_rfl
def adx:List V:=[nh,J 1,qj]
def ady:V:=Xe
theorem aqZ:bm (sH g) 200 (.fn 45 [] []) adx []=some (ady,[],0):=by kernel_rfl
def adz:List V:=[nh,J 2,qj]
def adA:V:=.aU [qj,Kz]
theorem aq0:bm (sH g) 200 (.fn 45 [] []) adz []=some (adA,[],0):=by kernel_rfl
def adB:List V:=[nh,J 0,q4]
def adC:V:=.aU [q4,.agg [J 2,J 1]]
theorem aq1:bm (sH g) 200 (.fn 45 [] []) adB []=some (adC,[],0):=by kernel_rfl
def adD:List V:=[nh,J 0,ni]
def adE:V:=.aU [ni,Ky]
theorem aq2:bm (sH g) 200 (.fn 45 [] []) adD []=some (adE,[],0):=by kernel_rfl
def adF:List V:=[nh,J 1,ni]
def adG:V:=.aU [ni,.agg [J 2,J 3]]
theorem aq3:bm (sH g) 200 (.fn 45 [] []) adF []=some (adG,[],0):=by kernel_rfl
def adH:List V:=[nh,J 2,ni]
def adI:V:=.aU [ni,Kz]
theorem aq4:bm (sH g) 200 (.fn 45 [] []) adH []=some (adI,[],0):=by kernel_rfl
def adJ:List (List V × V):=[(adr,ads),(adt,adu),(adv,adw),(adx,ady),(adz,adA),(adB,adC),(adD,adE),(adF,adG),(adH,adI)]
theorem aq5:hC (sH g) 200 45 adJ:=⟨⟨by kernel_rfl,aqW g⟩,⟨⟨by kernel_rfl,aqX g⟩,⟨⟨by kernel_rfl,aqY g⟩,⟨⟨by kernel_rfl,aqZ g⟩,⟨⟨by kernel_rfl,aq0 g⟩,⟨⟨by kernel_rfl,aq1 g⟩,⟨⟨by kernel_rfl,aq2 g⟩,⟨⟨by kernel_rfl,aq3 g⟩,⟨⟨by kernel_rfl,aq4 g⟩,trivial⟩⟩⟩⟩⟩⟩⟩⟩⟩
def G0:Nat->Option bU:=over (sH g) 45 (hB adJ)
def adK:List V:=[nh,qj,.list 1 [J 0,J 1,J 2]]
def adL:V:=.aU [ni,.list 2 [Kx,Ky,Kx],J 0]
theorem aq6:bm (G0 g) 200 (.fn 17 [] []) adK []=some (adL,[],0):=by kernel_rfl
def adM:List V:=[nh,ni,.list 1 [J 2]]
def adN:V:=.aU [ni,.list 2 [Kz],J 0]
theorem aq7:bm (G0 g) 200 (.fn 17 [] []) adM []=some (adN,[],0):=by kernel_rfl
def m17:List (List V × V):=[(adK,adL),(adM,adN)]
theorem aq8:hC (G0 g) 200 17 m17:=⟨⟨by kernel_rfl,aq6 g⟩,⟨⟨by kernel_rfl,aq7 g⟩,trivial⟩⟩
def LF:Nat->Option bU:=over (G0 g) 17 (hB m17)
def adO:List V:=[nh,qj,J 2]
def adP:V:=.aU [.list 1 [qj,q4,ni],J 0]
theorem aq9:bm (LF g) 200 (.fn 35 [] []) adO []=some (adP,[],0):=by kernel_rfl
def adQ:List (List V × V):=[(adO,adP)]
theorem ara:hC (LF g) 200 35 adQ:=⟨⟨by kernel_rfl,aq9 g⟩,trivial⟩
def G1:Nat->Option bU:=over (LF g) 35 (hB adQ)
def adR:List V:=[nh,Xf,Ky]
def adS:V:=.str [118,105,111,108,97,116,101,115,32,105,58,32,114,40,48,41,32,43,32,114,40,49,41,32,60,61,32,49]
theorem arb:bm (G1 g) 200 (.fn 37 [] []) adR []=some (adS,[],0):=by kernel_rfl
def adT:List V:=[nh,Xg,Kz]
def adU:V:=.str [110,101,101,100,115,32,45,114,40,48,41,32,60,61,32,45,49]
theorem arc:bm (G1 g) 200 (.fn 37 [] []) adT []=some (adU,[],0):=by kernel_rfl
def adV:List (List V × V):=[(adR,adS),(adT,adU)]
theorem ard:hC (G1 g) 200 37 adV:=⟨⟨by kernel_rfl,arb g⟩,⟨⟨by kernel_rfl,arc g⟩,trivial⟩⟩
def Q9:Nat->Option bU:=over (G1 g) 37 (hB adV)
theorem arf:bm (Q9 g) 200 (.fn 7 [] []) [] []=some (.bool true,[],0):=by kernel_rfl
end
end Go.Abs.bz
