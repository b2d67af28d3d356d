/- Texts of this claim, joined and written short by a program. -/
import Derived.Test.YtonmjjfciemcoaaGreatDoorP14
import Derived.Test.YtonmjjfciemcoaaGreatDoorP00
set_option linter.unusedVariables false
set_option linter.unusedSimpArgs false
set_option linter.unusedSectionVars false
set_option maxRecDepth 100000
namespace Go.Abs.hk
open Go Go.Abs Go.Proofs
noncomputable section
variable (g:Nat->Option Obj)
def aCa:List V:=[avr,auK]
def aCb:V:=.bool true
theorem aG1:cu (zw g) 200 (.fn 50 [] []) aCa []=some (aCb,[],0):=by kernel_rfl
def aCc:List V:=[avs,auK]
def aCd:V:=.bool true
theorem aG2:cu (zw g) 200 (.fn 50 [] []) aCc []=some (aCd,[],0):=by kernel_rfl
def aCe:List V:=[avI,auK]
def aCf:V:=.bool true
theorem aG3:cu (zw g) 200 (.fn 50 [] []) aCe []=some (aCf,[],0):=by kernel_rfl
def aCg:List V:=[avJ,auK]
def aCh:V:=.bool true
theorem aG4:cu (zw g) 200 (.fn 50 [] []) aCg []=some (aCh,[],0):=by kernel_rfl
def aCi:List V:=[awe,auK]
def aCj:V:=.bool true
theorem aG5:cu (zw g) 200 (.fn 50 [] []) aCi []=some (aCj,[],0):=by kernel_rfl
def aCk:List V:=[avr,auO]
def aCl:V:=.bool true
theorem aG6:cu (zw g) 200 (.fn 50 [] []) aCk []=some (aCl,[],0):=by kernel_rfl
def aCm:List V:=[avs,auO]
def aCn:V:=.bool true
theorem aG7:cu (zw g) 200 (.fn 50 [] []) aCm []=some (aCn,[],0):=by kernel_rfl
def aCo:List V:=[avI,auO]
def aCp:V:=.bool true
theorem aG8:cu (zw g) 200 (.fn 50 [] []) aCo []=some (aCp,[],0):=by kernel_rfl
def aCq:List V:=[avJ,auO]
def aCr:V:=.bool true
theorem aG9:cu (zw g) 200 (.fn 50 [] []) aCq []=some (aCr,[],0):=by kernel_rfl
def aCs:List V:=[awe,auO]
def aCt:V:=.bool true
theorem aHa:cu (zw g) 200 (.fn 50 [] []) aCs []=some (aCt,[],0):=by kernel_rfl
def aCu:List V:=[avr,awf]
def aCv:V:=.bool true
theorem aHb:cu (zw g) 200 (.fn 50 [] []) aCu []=some (aCv,[],0):=by kernel_rfl
def aCw:List V:=[avs,awf]
def aCx:V:=.bool true
theorem aHc:cu (zw g) 200 (.fn 50 [] []) aCw []=some (aCx,[],0):=by kernel_rfl
def aCy:List V:=[avI,awf]
def aCz:V:=.bool true
theorem aHd:cu (zw g) 200 (.fn 50 [] []) aCy []=some (aCz,[],0):=by kernel_rfl
def aCA:List V:=[avJ,awf]
def aCB:V:=.bool true
theorem aHe:cu (zw g) 200 (.fn 50 [] []) aCA []=some (aCB,[],0):=by kernel_rfl
def aCC:List V:=[awe,awf]
def aCD:V:=.bool false
theorem aHf:cu (zw g) 200 (.fn 50 [] []) aCC []=some (aCD,[],0):=by kernel_rfl
def aCE:List V:=[ayA,auO]
def aCF:V:=.bool true
theorem aHg:cu (zw g) 200 (.fn 50 [] []) aCE []=some (aCF,[],0):=by kernel_rfl
def aCG:List V:=[avr,Nk]
def aCH:V:=.bool true
theorem aHh:cu (zw g) 200 (.fn 50 [] []) aCG []=some (aCH,[],0):=by kernel_rfl
def aCI:List V:=[avs,Nk]
def aCJ:V:=.bool true
theorem aHi:cu (zw g) 200 (.fn 50 [] []) aCI []=some (aCJ,[],0):=by kernel_rfl
def aCK:List V:=[avI,Nk]
def aCL:V:=.bool true
theorem aHj:cu (zw g) 200 (.fn 50 [] []) aCK []=some (aCL,[],0):=by kernel_rfl
def aCM:List V:=[avJ,Nk]
def aCN:V:=.bool true
theorem aHk:cu (zw g) 200 (.fn 50 [] []) aCM []=some (aCN,[],0):=by kernel_rfl
def aCO:List V:=[awe,Nk]
def aCP:V:=.bool true
theorem aHl:cu (zw g) 200 (.fn 50 [] []) aCO []=some (aCP,[],0):=by kernel_rfl
def aCQ:List V:=[ayA,auK]
def aCR:V:=.bool false
theorem aHm:cu (zw g) 200 (.fn 50 [] []) aCQ []=some (aCR,[],0):=by kernel_rfl
def aCS:List V:=[avr,azv]
def aCT:V:=.bool true
theorem aHn:cu (zw g) 200 (.fn 50 [] []) aCS []=some (aCT,[],0):=by kernel_rfl
def aCU:List V:=[avs,azv]
def aCV:V:=.bool false
theorem aHo:cu (zw g) 200 (.fn 50 [] []) aCU []=some (aCV,[],0):=by kernel_rfl
def aCW:List V:=[avr,axd]
def aCX:V:=.bool true
theorem aHp:cu (zw g) 200 (.fn 50 [] []) aCW []=some (aCX,[],0):=by kernel_rfl
def aCY:List V:=[avs,axd]
def aCZ:V:=.bool true
theorem aHq:cu (zw g) 200 (.fn 50 [] []) aCY []=some (aCZ,[],0):=by kernel_rfl
def aC0:List V:=[avI,axd]
def aC1:V:=.bool true
theorem aHr:cu (zw g) 200 (.fn 50 [] []) aC0 []=some (aC1,[],0):=by kernel_rfl
def aC2:List V:=[avJ,axd]
def aC3:V:=.bool false
theorem aHs:cu (zw g) 200 (.fn 50 [] []) aC2 []=some (aC3,[],0):=by kernel_rfl
def aC4:List V:=[ayA,Nk]
def aC5:V:=.bool false
theorem aHt:cu (zw g) 200 (.fn 50 [] []) aC4 []=some (aC5,[],0):=by kernel_rfl
def aC6:List (List V × V):=[(aCa,aCb),(aCc,aCd),(aCe,aCf),(aCg,aCh),(aCi,aCj),(aCk,aCl),(aCm,aCn),(aCo,aCp),(aCq,aCr),(aCs,aCt),(aCu,aCv),(aCw,aCx),(aCy,aCz),(aCA,aCB),(aCC,aCD),(aCE,aCF),(aCG,aCH),(aCI,aCJ),(aCK,aCL),(aCM,aCN),(aCO,aCP),(aCQ,aCR),(aCS,aCT),(aCU,aCV),(aCW,aCX),(aCY,aCZ),(aC0,aC1),(aC2,aC3),(aC4,aC5)]
theorem aHu:jf (zw g) 200 50 aC6:=⟨⟨by kernel_rfl,aG1 g⟩,⟨⟨by kernel_rfl,aG2 g⟩,⟨⟨by kernel_rfl,aG3 g⟩,⟨⟨by kernel_rfl,aG4 g⟩,⟨⟨by kernel_rfl,aG5 g⟩,⟨⟨by kernel_rfl,aG6 g⟩,⟨⟨by kernel_rfl,aG7 g⟩,⟨⟨by kernel_rfl,aG8 g⟩,⟨⟨by kernel_rfl,aG9 g⟩,⟨⟨by kernel_rfl,aHa g⟩,⟨⟨by kernel_rfl,aHb g⟩,⟨⟨by kernel_rfl,aHc g⟩,⟨⟨by kernel_rfl,aHd g⟩,⟨⟨by kernel_rfl,aHe g⟩,⟨⟨by kernel_rfl,aHf g⟩,⟨⟨by kernel_rfl,aHg g⟩,⟨⟨by kernel_rfl,aHh g⟩,⟨⟨by kernel_rfl,aHi g⟩,⟨⟨by kernel_rfl,aHj g⟩,⟨⟨by kernel_rfl,aHk g⟩,⟨⟨by kernel_rfl,aHl g⟩,⟨⟨by kernel_rfl,aHm g⟩,⟨⟨by kernel_rfl,aHn g⟩,⟨⟨by kernel_rfl,aHo g⟩,⟨⟨by kernel_rfl,aHp g⟩,⟨⟨by kernel_rfl,aHq g⟩,⟨⟨by kernel_rfl,aHr g⟩,⟨⟨by kernel_rfl,aHs g⟩,⟨⟨by kernel_rfl,aHt g⟩,trivial⟩⟩⟩⟩⟩⟩⟩⟩⟩⟩⟩⟩⟩⟩⟩⟩⟩⟩⟩⟩⟩⟩⟩⟩⟩⟩⟩⟩⟩
def awg:Nat->Option bY:=over (zw g) 50 (je aC6)
def aC7:List V:=[Nj,auK]
def aC8:V:=.bool true
theorem aHv:cu (awg g) 200 (.fn 21 [] []) aC7 []=some (aC8,[],0):=by kernel_rfl
def aC9:List V:=[Nj,Nk]
def aDa:V:=.bool true
theorem aHw:cu (awg g) 200 (.fn 21 [] []) aC9 []=some (aDa,[],0):=by kernel_rfl
def m21:List (List V × V):=[(aC7,aC8),(aC9,aDa)]
theorem aHx:jf (awg g) 200 21 m21:=⟨⟨by kernel_rfl,aHv g⟩,⟨⟨by kernel_rfl,aHw g⟩,trivial⟩⟩
def auU:Nat->Option bY:=over (awg g) 21 (je m21)
def aDb:List V:=[Nj,au 0,auK]
def aDc:V:=.aU [auO,axe]
theorem aHy:cu (auU g) 200 (.fn 45 [] []) aDb []=some (aDc,[],0):=by kernel_rfl
def aDd:List V:=[Nj,au 1,auO]
def aDe:V:=.aU [auO,axf]
theorem aHz:cu (auU g) 200 (.fn 45 [] []) aDd []=some (aDe,[],0):=by kernel_rfl
def aDf:List V:=[Nj,au 2,auO]
def aDg:V:=azw
theorem aHA:cu (auU g) 200 (.fn 45 [] []) aDf []=some (aDg,[],0):=by kernel_rfl
def aDh:List V:=[Nj,au 1,auK]
def aDi:V:=azw
theorem aHB:cu (auU g) 200 (.fn 45 [] []) aDh []=some (aDi,[],0):=by kernel_rfl
def aDj:List V:=[Nj,au 2,auK]
def aDk:V:=.aU [auK,axg]
theorem aHC:cu (auU g) 200 (.fn 45 [] []) aDj []=some (aDk,[],0):=by kernel_rfl
def aDl:List V:=[Nj,au 0,auO]
def aDm:V:=.aU [auO,.agg [au 2,au 1]]
theorem aHD:cu (auU g) 200 (.fn 45 [] []) aDl []=some (aDm,[],0):=by kernel_rfl
def aDn:List V:=[Nj,au 0,Nk]
def aDo:V:=.aU [Nk,axf]
theorem aHE:cu (auU g) 200 (.fn 45 [] []) aDn []=some (aDo,[],0):=by kernel_rfl
def aDp:List V:=[Nj,au 1,Nk]
def aDq:V:=.aU [Nk,.agg [au 2,au 3]]
theorem aHF:cu (auU g) 200 (.fn 45 [] []) aDp []=some (aDq,[],0):=by kernel_rfl
def aDr:List V:=[Nj,au 2,Nk]
def aDs:V:=.aU [Nk,axg]
theorem aHG:cu (auU g) 200 (.fn 45 [] []) aDr []=some (aDs,[],0):=by kernel_rfl
def aDt:List (List V × V):=[(aDb,aDc),(aDd,aDe),(aDf,aDg),(aDh,aDi),(aDj,aDk),(aDl,aDm),(aDn,aDo),(aDp,aDq),(aDr,aDs)]
theorem aHH:jf (auU g) 200 45 aDt:=⟨⟨by kernel_rfl,aHy g⟩,⟨⟨by kernel_rfl,aHz g⟩,⟨⟨by kernel_rfl,aHA g⟩,⟨⟨by kernel_rfl,aHB g⟩,⟨⟨by kernel_rfl,aHC g⟩,⟨⟨by kernel_rfl,aHD g⟩,⟨⟨by kernel_rfl,aHE g⟩,⟨⟨by kernel_rfl,aHF g⟩,⟨⟨by kernel_rfl,aHG g⟩,trivial⟩⟩⟩⟩⟩⟩⟩⟩⟩
def awh:Nat->Option bY:=over (auU g) 45 (je aDt)
def aDu:List V:=[Nj,auK,.list 1 [au 0,au 1,au 2]]
def aDv:V:=.aU [Nk,.list 2 [axe,axf,axe],au 0]
theorem aHI:cu (awh g) 200 (.fn 17 [] []) aDu []=some (aDv,[],0):=by kernel_rfl
def aDw:List V:=[Nj,Nk,.list 1 [au 2]]
def aDx:V:=.aU [Nk,.list 2 [axg],au 0]
theorem aHJ:cu (awh g) 200 (.fn 17 [] []) aDw []=some (aDx,[],0):=by kernel_rfl
def m17:List (List V × V):=[(aDu,aDv),(aDw,aDx)]
theorem aHK:jf (awh g) 200 17 m17:=⟨⟨by kernel_rfl,aHI g⟩,⟨⟨by kernel_rfl,aHJ g⟩,trivial⟩⟩
def axk:Nat->Option bY:=over (awh g) 17 (je m17)
def aDy:List V:=[Nj,auK,au 2]
def aDz:V:=.aU [.list 1 [auK,auO,Nk],au 0]
theorem aHL:cu (axk g) 200 (.fn 35 [] []) aDy []=some (aDz,[],0):=by kernel_rfl
def aDA:List (List V × V):=[(aDy,aDz)]
theorem aHM:jf (axk g) 200 35 aDA:=⟨⟨by kernel_rfl,aHL g⟩,trivial⟩
def awi:Nat->Option bY:=over (axk g) 35 (je aDA)
def aDB:List V:=[Nj,azx,axf]
def aDC:V:=.str [118,105,111,108,97,116,101,115,32,105,58,32,114,40,48,41,32,43,32,114,40,49,41,32,60,61,32,49]
theorem aHN:cu (awi g) 200 (.fn 37 [] []) aDB []=some (aDC,[],0):=by kernel_rfl
def aDD:List V:=[Nj,azy,axg]
def aDE:V:=.str [110,101,101,100,115,32,45,114,40,48,41,32,60,61,32,45,49]
theorem aHO:cu (awi g) 200 (.fn 37 [] []) aDD []=some (aDE,[],0):=by kernel_rfl
def aDF:List (List V × V):=[(aDB,aDC),(aDD,aDE)]
theorem aHP:jf (awi g) 200 37 aDF:=⟨⟨by kernel_rfl,aHN g⟩,⟨⟨by kernel_rfl,aHO g⟩,trivial⟩⟩
def ayE:Nat->Option bY:=over (awi g) 37 (je aDF)
theorem ahi:cu (ayE g) 200 (.fn 7 [] []) [] []=some (.bool true,[],0):=by kernel_rfl
end
end Go.Abs.hk
