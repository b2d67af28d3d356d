/- Texts of this claim, joined and written short by a program. -/
import Derived.Test.YtgkcikhegodchaaGreatDoorP17
import Derived.Test.YtgkcikhegodchaaGreatDoorP00
set_option linter.unusedVariables false
set_option linter.unusedSimpArgs false
set_option linter.unusedSectionVars false
set_option maxRecDepth 100000
namespace Go.Abs.bA
open Go Go.Abs Go.Proofs
noncomputable section
variable (g:Nat->Option Obj)
def abk:List V:=[.list 1 [aj 2],N0]
def abl:V:=.bool true
theorem anu:bN (Ky g) 200 (.fn 35 [] []) abk []=some (abl,[],0):=by kernel_rfl
def abm:List (List V × V):=[(abk,abl)]
theorem anv:jJ (Ky g) 200 35 abm:=⟨⟨by kernel_rfl,anu g⟩,trivial⟩
def Kz:Nat->Option cc:=over (Ky g) 35 (jI abm)
def abn:List V:=[Jw]
def abo:V:=.aF [Cv,aj 0]
theorem anw:bN (Kz g) 200 (.fn 24 [] []) abn []=some (abo,[],0):=by kernel_rfl
def m24:List (List V × V):=[(abn,abo)]
theorem anx:jJ (Kz g) 200 24 m24:=⟨⟨by kernel_rfl,anw g⟩,trivial⟩
def KA:Nat->Option cc:=over (Kz g) 24 (jI m24)
def abp:List V:=[Cv]
def abq:V:=.bool true
theorem anz:bN (KA g) 200 (.fn 11 [] []) abp []=some (abq,[],0):=by kernel_rfl
def m11:List (List V × V):=[(abp,abq)]
theorem anA:jJ (KA g) 200 11 m11:=⟨⟨by kernel_rfl,anz g⟩,trivial⟩
def KB:Nat->Option cc:=over (KA g) 11 (jI m11)
def abr:List V:=[Wc]
def abt:V:=.list 1 [.str [99],.str [40],.str [41],.str [61],.str [50],.str [59],.str [114],.str [40],.str [48],.str [41],.str [61],.str [49],.str [59]]
theorem anB:bN (KB g) 200 (.fn 65 [] []) abr []=some (abt,[],0):=by kernel_rfl
def abu:List (List V × V):=[(abr,abt)]
theorem anC:jJ (KB g) 200 65 abu:=⟨⟨by kernel_rfl,anB g⟩,trivial⟩
def ob:Nat->Option cc:=over (KB g) 65 (jI abu)
end
end Go.Abs.bA
