/- Texts of this claim, joined and written short by a program. -/
import Derived.Test.YtoimeckpnnkbpaaGreatDoorP18
import Derived.Test.YtoimeckpnnkbpaaGreatDoorP00
set_option linter.unusedVariables false
set_option linter.unusedSimpArgs false
set_option linter.unusedSectionVars false
set_option maxRecDepth 100000
namespace Go.Abs.hk
open Go Go.Abs Go.Proofs
noncomputable section
variable (g:Nat->Option Obj)
def aBv:List V:=[abE,Ut]
def aBw:V:=.bool true
theorem aFb:cu (Hq g) 200 (.fn 33 [] []) aBv []=some (aBw,[],0):=by kernel_rfl
def aBx:List V:=[abG,Ut]
def aBy:V:=.bool true
theorem aFc:cu (Hq g) 200 (.fn 33 [] []) aBx []=some (aBy,[],0):=by kernel_rfl
def aBz:List V:=[Rp,Ut]
def aBA:V:=.bool true
theorem aFd:cu (Hq g) 200 (.fn 33 [] []) aBz []=some (aBA,[],0):=by kernel_rfl
def aBB:List V:=[abK,Ut]
def aBC:V:=.bool true
theorem aFe:cu (Hq g) 200 (.fn 33 [] []) aBB []=some (aBC,[],0):=by kernel_rfl
def aBD:List V:=[Rq,Ut]
def aBE:V:=.bool true
theorem aFf:cu (Hq g) 200 (.fn 33 [] []) aBD []=some (aBE,[],0):=by kernel_rfl
def aBF:List V:=[axi,Ut]
def aBG:V:=.bool true
theorem aFg:cu (Hq g) 200 (.fn 33 [] []) aBF []=some (aBG,[],0):=by kernel_rfl
def aBH:List V:=[axk,Ut]
def aBI:V:=.bool false
theorem aFh:cu (Hq g) 200 (.fn 33 [] []) aBH []=some (aBI,[],0):=by kernel_rfl
def aBJ:List V:=[abE,ags]
def aBK:V:=.bool true
theorem aFi:cu (Hq g) 200 (.fn 33 [] []) aBJ []=some (aBK,[],0):=by kernel_rfl
def aBL:List V:=[abG,ags]
def aBM:V:=.bool true
theorem aFj:cu (Hq g) 200 (.fn 33 [] []) aBL []=some (aBM,[],0):=by kernel_rfl
def aBN:List V:=[Rp,ags]
def aBO:V:=.bool true
theorem aFk:cu (Hq g) 200 (.fn 33 [] []) aBN []=some (aBO,[],0):=by kernel_rfl
def aBP:List V:=[abK,ags]
def aBQ:V:=.bool true
theorem aFl:cu (Hq g) 200 (.fn 33 [] []) aBP []=some (aBQ,[],0):=by kernel_rfl
def aBR:List V:=[Rq,ags]
def aBS:V:=.bool true
theorem aFm:cu (Hq g) 200 (.fn 33 [] []) aBR []=some (aBS,[],0):=by kernel_rfl
def aBT:List V:=[axi,ags]
def aBU:V:=.bool true
theorem aFn:cu (Hq g) 200 (.fn 33 [] []) aBT []=some (aBU,[],0):=by kernel_rfl
def aBV:List V:=[axk,ags]
def aBW:V:=.bool true
theorem aFo:cu (Hq g) 200 (.fn 33 [] []) aBV []=some (aBW,[],0):=by kernel_rfl
def aBX:List (List V × V):=[(aBv,aBw),(aBx,aBy),(aBz,aBA),(aBB,aBC),(aBD,aBE),(aBF,aBG),(aBH,aBI),(aBJ,aBK),(aBL,aBM),(aBN,aBO),(aBP,aBQ),(aBR,aBS),(aBT,aBU),(aBV,aBW)]
theorem aFp:jf (Hq g) 200 33 aBX:=⟨⟨by kernel_rfl,aFb g⟩,⟨⟨by kernel_rfl,aFc g⟩,⟨⟨by kernel_rfl,aFd g⟩,⟨⟨by kernel_rfl,aFe g⟩,⟨⟨by kernel_rfl,aFf g⟩,⟨⟨by kernel_rfl,aFg g⟩,⟨⟨by kernel_rfl,aFh g⟩,⟨⟨by kernel_rfl,aFi g⟩,⟨⟨by kernel_rfl,aFj g⟩,⟨⟨by kernel_rfl,aFk g⟩,⟨⟨by kernel_rfl,aFl g⟩,⟨⟨by kernel_rfl,aFm g⟩,⟨⟨by kernel_rfl,aFn g⟩,⟨⟨by kernel_rfl,aFo g⟩,trivial⟩⟩⟩⟩⟩⟩⟩⟩⟩⟩⟩⟩⟩⟩
def Hr:Nat->Option bY:=over (Hq g) 33 (je aBX)
def aBY:List V:=[auK,Ut]
def aBZ:V:=.list 1 [au 6]
theorem aFq:cu (Hr g) 200 (.fn 13 [] []) aBY []=some (aBZ,[],0):=by kernel_rfl
def m13:List (List V × V):=[(aBY,aBZ)]
theorem aFr:jf (Hr g) 200 13 m13:=⟨⟨by kernel_rfl,aFq g⟩,trivial⟩
def Hs:Nat->Option bY:=over (Hr g) 13 (je m13)
def aB0:List V:=[auK,Ut]
def aB1:V:=.bool false
theorem aFs:cu (Hs g) 200 (.fn 11 [] []) aB0 []=some (aB1,[],0):=by kernel_rfl
def aB2:List V:=[auK,ags]
def aB3:V:=.bool true
theorem aFt:cu (Hs g) 200 (.fn 11 [] []) aB2 []=some (aB3,[],0):=by kernel_rfl
def m11:List (List V × V):=[(aB0,aB1),(aB2,aB3)]
theorem aFu:jf (Hs g) 200 11 m11:=⟨⟨by kernel_rfl,aFs g⟩,⟨⟨by kernel_rfl,aFt g⟩,trivial⟩⟩
def MM:Nat->Option bY:=over (Hs g) 11 (je m11)
def aB4:List V:=[auK,aya]
def aB5:V:=.aU [.list 1 [au 1,au 0,au 2],au 0]
theorem aFv:cu (MM g) 200 (.fn 23 [] []) aB4 []=some (aB5,[],0):=by kernel_rfl
def m23:List (List V × V):=[(aB4,aB5)]
theorem aFw:jf (MM g) 200 23 m23:=⟨⟨by kernel_rfl,aFv g⟩,trivial⟩
def axm:Nat->Option bY:=over (MM g) 23 (je m23)
theorem ahi:cu (axm g) 200 (.fn 5 [] []) [] []=some (.bool true,[],0):=by kernel_rfl
end
end Go.Abs.hk
