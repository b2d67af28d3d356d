/- Texts of this claim, joined and written short by a program. -/
import Derived.Test.YtoimeckpnnkbpaaGreatDoorP12
import Derived.Test.YtoimeckpnnkbpaaGreatDoorP00
set_option linter.unusedVariables false
set_option linter.unusedSimpArgs false
set_option linter.unusedSectionVars false
set_option maxRecDepth 100000
namespace Go.Abs.hk
open Go Go.Abs Go.Proofs
noncomputable section
variable (g:Nat->Option Obj)
def aAa:List V:=[abw,.cp,abw]
def aAb:V:=.aU [abw,au 0]
theorem aEp:cu (Dw g) 200 (.fn 177 [] []) aAa []=some (aAb,[],0):=by kernel_rfl
def aAc:List (List V × V):=[(aAa,aAb)]
theorem aEq:jf (Dw g) 200 177 aAc:=⟨⟨by kernel_rfl,aEp g⟩,trivial⟩
def Hj:Nat->Option bY:=over (Dw g) 177 (je aAc)
def aAd:List V:=[Q2]
def aAe:V:=au 1
theorem aEr:cu (Hj g) 200 (.fn 76 [] []) aAd []=some (aAe,[],0):=by kernel_rfl
def aAf:List V:=[Q3]
def aAg:V:=au 2
theorem aEs:cu (Hj g) 200 (.fn 76 [] []) aAf []=some (aAg,[],0):=by kernel_rfl
def aAh:List V:=[Q4]
def aAi:V:=au 1
theorem aEt:cu (Hj g) 200 (.fn 76 [] []) aAh []=some (aAi,[],0):=by kernel_rfl
def aAj:List V:=[Q5]
def aAk:V:=au 2
theorem aEu:cu (Hj g) 200 (.fn 76 [] []) aAj []=some (aAk,[],0):=by kernel_rfl
def aAl:List V:=[Q6]
def aAm:V:=au 3
theorem aEv:cu (Hj g) 200 (.fn 76 [] []) aAl []=some (aAm,[],0):=by kernel_rfl
def aAn:List V:=[Q7]
def aAo:V:=au 4
theorem aEw:cu (Hj g) 200 (.fn 76 [] []) aAn []=some (aAo,[],0):=by kernel_rfl
def aAp:List V:=[Q8]
def aAq:V:=au 1
theorem aEx:cu (Hj g) 200 (.fn 76 [] []) aAp []=some (aAq,[],0):=by kernel_rfl
def aAr:List V:=[abj]
def aAs:V:=au 1
theorem aEy:cu (Hj g) 200 (.fn 76 [] []) aAr []=some (aAs,[],0):=by kernel_rfl
def aAt:List V:=[Q9]
def aAu:V:=au 1
theorem aEz:cu (Hj g) 200 (.fn 76 [] []) aAt []=some (aAu,[],0):=by kernel_rfl
def aAv:List V:=[Ra]
def aAw:V:=au 2
theorem aEA:cu (Hj g) 200 (.fn 76 [] []) aAv []=some (aAw,[],0):=by kernel_rfl
def aAx:List V:=[Rc]
def aAy:V:=au 3
theorem aEB:cu (Hj g) 200 (.fn 76 [] []) aAx []=some (aAy,[],0):=by kernel_rfl
def aAz:List V:=[Rd]
def aAA:V:=au 1
theorem aEC:cu (Hj g) 200 (.fn 76 [] []) aAz []=some (aAA,[],0):=by kernel_rfl
def aAB:List V:=[Re]
def aAC:V:=au 1
theorem aED:cu (Hj g) 200 (.fn 76 [] []) aAB []=some (aAC,[],0):=by kernel_rfl
def aAD:List V:=[F6]
def aAE:V:=au 1
theorem aEE:cu (Hj g) 200 (.fn 76 [] []) aAD []=some (aAE,[],0):=by kernel_rfl
def aAF:List V:=[Rf]
def aAG:V:=au 2
theorem aEF:cu (Hj g) 200 (.fn 76 [] []) aAF []=some (aAG,[],0):=by kernel_rfl
def aAH:List V:=[abm]
def aAI:V:=au 3
theorem aEG:cu (Hj g) 200 (.fn 76 [] []) aAH []=some (aAI,[],0):=by kernel_rfl
def aAJ:List V:=[Rh]
def aAK:V:=au 1
theorem aEH:cu (Hj g) 200 (.fn 76 [] []) aAJ []=some (aAK,[],0):=by kernel_rfl
def aAL:List V:=[Ri]
def aAM:V:=au 2
theorem aEI:cu (Hj g) 200 (.fn 76 [] []) aAL []=some (aAM,[],0):=by kernel_rfl
def aAN:List V:=[F7]
def aAO:V:=au 4
theorem aEJ:cu (Hj g) 200 (.fn 76 [] []) aAN []=some (aAO,[],0):=by kernel_rfl
def aAP:List V:=[abp]
def aAQ:V:=au 1
theorem aEK:cu (Hj g) 200 (.fn 76 [] []) aAP []=some (aAQ,[],0):=by kernel_rfl
def aAR:List V:=[Rj]
def aAS:V:=au 1
theorem aEL:cu (Hj g) 200 (.fn 76 [] []) aAR []=some (aAS,[],0):=by kernel_rfl
def aAT:List V:=[uq]
def aAU:V:=au 2
theorem aEN:cu (Hj g) 200 (.fn 76 [] []) aAT []=some (aAU,[],0):=by kernel_rfl
def aAV:List V:=[Rl]
def aAW:V:=au 5
theorem aEO:cu (Hj g) 200 (.fn 76 [] []) aAV []=some (aAW,[],0):=by kernel_rfl
def aAX:List V:=[abr]
def aAY:V:=au 1
theorem aEP:cu (Hj g) 200 (.fn 76 [] []) aAX []=some (aAY,[],0):=by kernel_rfl
def aAZ:List V:=[abt]
def aA0:V:=au 2
theorem aEQ:cu (Hj g) 200 (.fn 76 [] []) aAZ []=some (aA0,[],0):=by kernel_rfl
def aA1:List V:=[abu]
def aA2:V:=au 6
theorem aER:cu (Hj g) 200 (.fn 76 [] []) aA1 []=some (aA2,[],0):=by kernel_rfl
def aA3:List V:=[abv]
def aA4:V:=au 7
theorem aES:cu (Hj g) 200 (.fn 76 [] []) aA3 []=some (aA4,[],0):=by kernel_rfl
def aA5:List V:=[abw]
def aA6:V:=au 8
theorem aET:cu (Hj g) 200 (.fn 76 [] []) aA5 []=some (aA6,[],0):=by kernel_rfl
def aA7:List (List V × V):=[(aAd,aAe),(aAf,aAg),(aAh,aAi),(aAj,aAk),(aAl,aAm),(aAn,aAo),(aAp,aAq),(aAr,aAs),(aAt,aAu),(aAv,aAw),(aAx,aAy),(aAz,aAA),(aAB,aAC),(aAD,aAE),(aAF,aAG),(aAH,aAI),(aAJ,aAK),(aAL,aAM),(aAN,aAO),(aAP,aAQ),(aAR,aAS),(aAT,aAU),(aAV,aAW),(aAX,aAY),(aAZ,aA0),(aA1,aA2),(aA3,aA4),(aA5,aA6)]
theorem aEU:jf (Hj g) 200 76 aA7:=⟨⟨by kernel_rfl,aEr g⟩,⟨⟨by kernel_rfl,aEs g⟩,⟨⟨by kernel_rfl,aEt g⟩,⟨⟨by kernel_rfl,aEu g⟩,⟨⟨by kernel_rfl,aEv g⟩,⟨⟨by kernel_rfl,aEw g⟩,⟨⟨by kernel_rfl,aEx g⟩,⟨⟨by kernel_rfl,aEy g⟩,⟨⟨by kernel_rfl,aEz g⟩,⟨⟨by kernel_rfl,aEA g⟩,⟨⟨by kernel_rfl,aEB g⟩,⟨⟨by kernel_rfl,aEC g⟩,⟨⟨by kernel_rfl,aED g⟩,⟨⟨by kernel_rfl,aEE g⟩,⟨⟨by kernel_rfl,aEF g⟩,⟨⟨by kernel_rfl,aEG g⟩,⟨⟨by kernel_rfl,aEH g⟩,⟨⟨by kernel_rfl,aEI g⟩,⟨⟨by kernel_rfl,aEJ g⟩,⟨⟨by kernel_rfl,aEK g⟩,⟨⟨by kernel_rfl,aEL g⟩,⟨⟨by kernel_rfl,aEN g⟩,⟨⟨by kernel_rfl,aEO g⟩,⟨⟨by kernel_rfl,aEP g⟩,⟨⟨by kernel_rfl,aEQ g⟩,⟨⟨by kernel_rfl,aER g⟩,⟨⟨by kernel_rfl,aES g⟩,⟨⟨by kernel_rfl,aET g⟩,trivial⟩⟩⟩⟩⟩⟩⟩⟩⟩⟩⟩⟩⟩⟩⟩⟩⟩⟩⟩⟩⟩⟩⟩⟩⟩⟩⟩⟩
def kb:Nat->Option bY:=over (Hj g) 76 (je aA7)
end
end Go.Abs.hk
