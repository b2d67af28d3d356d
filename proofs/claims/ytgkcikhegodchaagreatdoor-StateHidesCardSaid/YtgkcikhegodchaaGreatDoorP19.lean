/- Texts of this claim, joined and written short by a program. -/
import Derived.Test.YtgkcikhegodchaaGreatDoorP18
import Derived.Test.YtgkcikhegodchaaGreatDoorP00
set_option linter.unusedVariables false
set_option linter.unusedSimpArgs false
set_option linter.unusedSectionVars false
set_option maxRecDepth 100000
namespace Go.Abs.bA
open Go Go.Abs Go.Proofs
noncomputable section
variable (g:Nat->Option Obj)
def abv:List V:=[N2,vU]
def abw:V:=.bool true
theorem anD:bN (ob g) 200 (.fn 48 [] []) abv []=some (abw,[],0):=by kernel_rfl
def abx:List V:=[N4,vU]
def aby:V:=.bool true
theorem anE:bN (ob g) 200 (.fn 48 [] []) abx []=some (aby,[],0):=by kernel_rfl
def abz:List V:=[N6,vU]
def abA:V:=.bool true
theorem anF:bN (ob g) 200 (.fn 48 [] []) abz []=some (abA,[],0):=by kernel_rfl
def abB:List V:=[N8,vU]
def abC:V:=.bool true
theorem anG:bN (ob g) 200 (.fn 48 [] []) abB []=some (abC,[],0):=by kernel_rfl
def abD:List V:=[Oa,vU]
def abE:V:=.bool true
theorem anH:bN (ob g) 200 (.fn 48 [] []) abD []=some (abE,[],0):=by kernel_rfl
def abF:List V:=[Oc,vU]
def abG:V:=.bool true
theorem anI:bN (ob g) 200 (.fn 48 [] []) abF []=some (abG,[],0):=by kernel_rfl
def abH:List V:=[Oe,vU]
def abI:V:=.bool false
theorem anJ:bN (ob g) 200 (.fn 48 [] []) abH []=some (abI,[],0):=by kernel_rfl
def abJ:List V:=[N2,x3]
def abK:V:=.bool true
theorem anK:bN (ob g) 200 (.fn 48 [] []) abJ []=some (abK,[],0):=by kernel_rfl
def abL:List V:=[N4,x3]
def abM:V:=.bool true
theorem anL:bN (ob g) 200 (.fn 48 [] []) abL []=some (abM,[],0):=by kernel_rfl
def abN:List V:=[N6,x3]
def abO:V:=.bool true
theorem anM:bN (ob g) 200 (.fn 48 [] []) abN []=some (abO,[],0):=by kernel_rfl
def abP:List V:=[N8,x3]
def abQ:V:=.bool true
theorem anN:bN (ob g) 200 (.fn 48 [] []) abP []=some (abQ,[],0):=by kernel_rfl
def abR:List V:=[Oa,x3]
def abS:V:=.bool true
theorem anO:bN (ob g) 200 (.fn 48 [] []) abR []=some (abS,[],0):=by kernel_rfl
def abT:List V:=[Oc,x3]
def abU:V:=.bool true
theorem anP:bN (ob g) 200 (.fn 48 [] []) abT []=some (abU,[],0):=by kernel_rfl
def abV:List V:=[Oe,x3]
def abW:V:=.bool true
theorem anQ:bN (ob g) 200 (.fn 48 [] []) abV []=some (abW,[],0):=by kernel_rfl
def abX:List (List V × V):=[(abv,abw),(abx,aby),(abz,abA),(abB,abC),(abD,abE),(abF,abG),(abH,abI),(abJ,abK),(abL,abM),(abN,abO),(abP,abQ),(abR,abS),(abT,abU),(abV,abW)]
theorem anR:jJ (ob g) 200 48 abX:=⟨⟨by kernel_rfl,anD g⟩,⟨⟨by kernel_rfl,anE g⟩,⟨⟨by kernel_rfl,anF g⟩,⟨⟨by kernel_rfl,anG g⟩,⟨⟨by kernel_rfl,anH g⟩,⟨⟨by kernel_rfl,anI g⟩,⟨⟨by kernel_rfl,anJ g⟩,⟨⟨by kernel_rfl,anK g⟩,⟨⟨by kernel_rfl,anL g⟩,⟨⟨by kernel_rfl,anM g⟩,⟨⟨by kernel_rfl,anN g⟩,⟨⟨by kernel_rfl,anO g⟩,⟨⟨by kernel_rfl,anP g⟩,⟨⟨by kernel_rfl,anQ g⟩,trivial⟩⟩⟩⟩⟩⟩⟩⟩⟩⟩⟩⟩⟩⟩
def KC:Nat->Option cc:=over (ob g) 48 (jI abX)
def abY:List V:=[Cv,vU]
def abZ:V:=.list 1 [aj 6]
theorem anS:bN (KC g) 200 (.fn 20 [] []) abY []=some (abZ,[],0):=by kernel_rfl
def m20:List (List V × V):=[(abY,abZ)]
theorem anT:jJ (KC g) 200 20 m20:=⟨⟨by kernel_rfl,anS g⟩,trivial⟩
def F1:Nat->Option cc:=over (KC g) 20 (jI m20)
def ab0:List V:=[Cv,vU]
def ab1:V:=.bool false
theorem anU:bN (F1 g) 200 (.fn 28 [] []) ab0 []=some (ab1,[],0):=by kernel_rfl
def ab2:List V:=[Cv,x3]
def ab3:V:=.bool true
theorem anV:bN (F1 g) 200 (.fn 28 [] []) ab2 []=some (ab3,[],0):=by kernel_rfl
def ab4:List (List V × V):=[(ab0,ab1),(ab2,ab3)]
theorem anW:jJ (F1 g) 200 28 ab4:=⟨⟨by kernel_rfl,anU g⟩,⟨⟨by kernel_rfl,anV g⟩,trivial⟩⟩
def KD:Nat->Option cc:=over (F1 g) 28 (jI ab4)
def ab5:List V:=[Cv,Wc]
def ab6:V:=.aF [.list 1 [aj 1,aj 0,aj 2],aj 0]
theorem anX:bN (KD g) 200 (.fn 26 [] []) ab5 []=some (ab6,[],0):=by kernel_rfl
def ab7:List (List V × V):=[(ab5,ab6)]
theorem anY:jJ (KD g) 200 26 ab7:=⟨⟨by kernel_rfl,anX g⟩,trivial⟩
def Qm:Nat->Option cc:=over (KD g) 26 (jI ab7)
theorem anZ:bN (Qm g) 200 (.fn 6 [] []) [] []=some (.bool true,[],0):=by kernel_rfl
end
end Go.Abs.bA
