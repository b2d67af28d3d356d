/- Texts of this claim, joined and written short by a program. -/
import Derived.Test.YtjgngmpmjbkbpaaGreatDoorP22
import Derived.Test.YtjgngmpmjbkbpaaGreatDoorP00
set_option linter.unusedVariables false
set_option linter.unusedSimpArgs false
set_option linter.unusedSectionVars false
set_option maxRecDepth 100000
namespace Go.Abs.U
open Go Go.Abs Go.Proofs
noncomputable section
variable (g : Nat -> Option Obj)
def axn : List V := [zs, rI]
def axo : V := .bool true
theorem aB7 : cu (gr g) 200 (.fn 22 [] []) axn [] = some (axo, [], 0) := by kernel_rfl
def axp : List V := [AE, rI]
def axq : V := .bool true
theorem aB8 : cu (gr g) 200 (.fn 22 [] []) axp [] = some (axq, [], 0) := by kernel_rfl
def axr : List V := [Bs, rI]
def axs : V := .bool true
theorem aB9 : cu (gr g) 200 (.fn 22 [] []) axr [] = some (axs, [], 0) := by kernel_rfl
def axt : List V := [Du, rI]
def axu : V := .bool true
theorem aCa : cu (gr g) 200 (.fn 22 [] []) axt [] = some (axu, [], 0) := by kernel_rfl
def axv : List V := [DK, rI]
def axw : V := .bool true
theorem aCb : cu (gr g) 200 (.fn 22 [] []) axv [] = some (axw, [], 0) := by kernel_rfl
def axx : List V := [zs, uG]
def axy : V := .bool true
theorem aCc : cu (gr g) 200 (.fn 22 [] []) axx [] = some (axy, [], 0) := by kernel_rfl
def axz : List V := [AE, uG]
def axA : V := .bool true
theorem aCd : cu (gr g) 200 (.fn 22 [] []) axz [] = some (axA, [], 0) := by kernel_rfl
def axB : List V := [Bs, uG]
def axC : V := .bool true
theorem aCe : cu (gr g) 200 (.fn 22 [] []) axB [] = some (axC, [], 0) := by kernel_rfl
def axD : List V := [Du, uG]
def axE : V := .bool true
theorem aCf : cu (gr g) 200 (.fn 22 [] []) axD [] = some (axE, [], 0) := by kernel_rfl
def axF : List V := [DK, uG]
def axG : V := .bool true
theorem aCg : cu (gr g) 200 (.fn 22 [] []) axF [] = some (axG, [], 0) := by kernel_rfl
def axH : List V := [zs, DL]
def axI : V := .bool true
theorem aCh : cu (gr g) 200 (.fn 22 [] []) axH [] = some (axI, [], 0) := by kernel_rfl
def axJ : List V := [AE, DL]
def axK : V := .bool true
theorem aCi : cu (gr g) 200 (.fn 22 [] []) axJ [] = some (axK, [], 0) := by kernel_rfl
def axL : List V := [Bs, DL]
def axM : V := .bool true
theorem aCj : cu (gr g) 200 (.fn 22 [] []) axL [] = some (axM, [], 0) := by kernel_rfl
def axN : List V := [Du, DL]
def axO : V := .bool true
theorem aCk : cu (gr g) 200 (.fn 22 [] []) axN [] = some (axO, [], 0) := by kernel_rfl
def axP : List V := [DK, DL]
def axQ : V := .bool false
theorem aCl : cu (gr g) 200 (.fn 22 [] []) axP [] = some (axQ, [], 0) := by kernel_rfl
def axR : List V := [Nf, uG]
def axS : V := .bool true
theorem aCm : cu (gr g) 200 (.fn 22 [] []) axR [] = some (axS, [], 0) := by kernel_rfl
def axT : List V := [zs, oK]
def axU : V := .bool true
theorem aCn : cu (gr g) 200 (.fn 22 [] []) axT [] = some (axU, [], 0) := by kernel_rfl
def axV : List V := [AE, oK]
def axW : V := .bool true
theorem aCo : cu (gr g) 200 (.fn 22 [] []) axV [] = some (axW, [], 0) := by kernel_rfl
def axX : List V := [Bs, oK]
def axY : V := .bool true
theorem aCp : cu (gr g) 200 (.fn 22 [] []) axX [] = some (axY, [], 0) := by kernel_rfl
def axZ : List V := [Du, oK]
def ax0 : V := .bool true
theorem aCq : cu (gr g) 200 (.fn 22 [] []) axZ [] = some (ax0, [], 0) := by kernel_rfl
def ax1 : List V := [DK, oK]
def ax2 : V := .bool true
theorem aCr : cu (gr g) 200 (.fn 22 [] []) ax1 [] = some (ax2, [], 0) := by kernel_rfl
def ax3 : List V := [Nf, rI]
def ax4 : V := .bool false
theorem aCs : cu (gr g) 200 (.fn 22 [] []) ax3 [] = some (ax4, [], 0) := by kernel_rfl
def ax5 : List V := [zs, afP]
def ax6 : V := .bool true
theorem aCt : cu (gr g) 200 (.fn 22 [] []) ax5 [] = some (ax6, [], 0) := by kernel_rfl
def ax7 : List V := [AE, afP]
def ax8 : V := .bool false
theorem aCu : cu (gr g) 200 (.fn 22 [] []) ax7 [] = some (ax8, [], 0) := by kernel_rfl
def ax9 : List V := [zs, HN]
def aya : V := .bool true
theorem aCv : cu (gr g) 200 (.fn 22 [] []) ax9 [] = some (aya, [], 0) := by kernel_rfl
def ayb : List V := [AE, HN]
def ayc : V := .bool true
theorem aCw : cu (gr g) 200 (.fn 22 [] []) ayb [] = some (ayc, [], 0) := by kernel_rfl
def ayd : List V := [Bs, HN]
def aye : V := .bool true
theorem aCx : cu (gr g) 200 (.fn 22 [] []) ayd [] = some (aye, [], 0) := by kernel_rfl
def ayf : List V := [Du, HN]
def ayg : V := .bool false
theorem aCy : cu (gr g) 200 (.fn 22 [] []) ayf [] = some (ayg, [], 0) := by kernel_rfl
def ayh : List V := [Nf, oK]
def ayi : V := .bool false
theorem aCz : cu (gr g) 200 (.fn 22 [] []) ayh [] = some (ayi, [], 0) := by kernel_rfl
def m22 : List (List V × V) := [(axn, axo), (axp, axq), (axr, axs), (axt, axu), (axv, axw), (axx, axy), (axz, axA), (axB, axC), (axD, axE), (axF, axG), (axH, axI), (axJ, axK), (axL, axM), (axN, axO), (axP, axQ), (axR, axS), (axT, axU), (axV, axW), (axX, axY), (axZ, ax0), (ax1, ax2), (ax3, ax4), (ax5, ax6), (ax7, ax8), (ax9, aya), (ayb, ayc), (ayd, aye), (ayf, ayg), (ayh, ayi)]
theorem aCA : iS (gr g) 200 22 m22 := ⟨⟨by kernel_rfl, aB7 g⟩, ⟨⟨by kernel_rfl, aB8 g⟩, ⟨⟨by kernel_rfl, aB9 g⟩, ⟨⟨by kernel_rfl, aCa g⟩, ⟨⟨by kernel_rfl, aCb g⟩, ⟨⟨by kernel_rfl, aCc g⟩, ⟨⟨by kernel_rfl, aCd g⟩, ⟨⟨by kernel_rfl, aCe g⟩, ⟨⟨by kernel_rfl, aCf g⟩, ⟨⟨by kernel_rfl, aCg g⟩, ⟨⟨by kernel_rfl, aCh g⟩, ⟨⟨by kernel_rfl, aCi g⟩, ⟨⟨by kernel_rfl, aCj g⟩, ⟨⟨by kernel_rfl, aCk g⟩, ⟨⟨by kernel_rfl, aCl g⟩, ⟨⟨by kernel_rfl, aCm g⟩, ⟨⟨by kernel_rfl, aCn g⟩, ⟨⟨by kernel_rfl, aCo g⟩, ⟨⟨by kernel_rfl, aCp g⟩, ⟨⟨by kernel_rfl, aCq g⟩, ⟨⟨by kernel_rfl, aCr g⟩, ⟨⟨by kernel_rfl, aCs g⟩, ⟨⟨by kernel_rfl, aCt g⟩, ⟨⟨by kernel_rfl, aCu g⟩, ⟨⟨by kernel_rfl, aCv g⟩, ⟨⟨by kernel_rfl, aCw g⟩, ⟨⟨by kernel_rfl, aCx g⟩, ⟨⟨by kernel_rfl, aCy g⟩, ⟨⟨by kernel_rfl, aCz g⟩, trivial⟩⟩⟩⟩⟩⟩⟩⟩⟩⟩⟩⟩⟩⟩⟩⟩⟩⟩⟩⟩⟩⟩⟩⟩⟩⟩⟩⟩⟩
def DP : Nat -> Option ca := over (gr g) 22 (iR m22)
def UL : List V := [nf, rI]
def UM : V := .bool true
theorem afl : cu (DP g) 200 (.fn 7 [] []) UL [] = some (UM, [], 0) := by kernel_rfl
def ayj : List V := [nf, oK]
def ayk : V := .bool true
theorem aCB : cu (DP g) 200 (.fn 7 [] []) ayj [] = some (ayk, [], 0) := by kernel_rfl
def m7 : List (List V × V) := [(UL, UM), (ayj, ayk)]
theorem afm : iS (DP g) 200 7 m7 := ⟨⟨by kernel_rfl, afl g⟩, ⟨⟨by kernel_rfl, aCB g⟩, trivial⟩⟩
def x8 : Nat -> Option ca := over (DP g) 7 (iR m7)
def ayl : List V := [nf, aq 0, rI]
def aym : V := .ba [uG, HO]
theorem aCC : cu (x8 g) 200 (.fn 26 [] []) ayl [] = some (aym, [], 0) := by kernel_rfl
def ayn : List V := [nf, aq 1, uG]
def ayo : V := .ba [uG, HP]
theorem aCD : cu (x8 g) 200 (.fn 26 [] []) ayn [] = some (ayo, [], 0) := by kernel_rfl
def ayp : List V := [nf, aq 2, uG]
def ayq : V := agn
theorem aCE : cu (x8 g) 200 (.fn 26 [] []) ayp [] = some (ayq, [], 0) := by kernel_rfl
def ayr : List V := [nf, aq 1, rI]
def ays : V := agn
theorem aCF : cu (x8 g) 200 (.fn 26 [] []) ayr [] = some (ays, [], 0) := by kernel_rfl
def ayt : List V := [nf, aq 2, rI]
def ayu : V := .ba [rI, HQ]
theorem aCG : cu (x8 g) 200 (.fn 26 [] []) ayt [] = some (ayu, [], 0) := by kernel_rfl
def ayv : List V := [nf, aq 0, uG]
def ayw : V := .ba [uG, .agg [aq 2, aq 1]]
theorem aCH : cu (x8 g) 200 (.fn 26 [] []) ayv [] = some (ayw, [], 0) := by kernel_rfl
def ayx : List V := [nf, aq 0, oK]
def ayy : V := .ba [oK, HP]
theorem aCI : cu (x8 g) 200 (.fn 26 [] []) ayx [] = some (ayy, [], 0) := by kernel_rfl
def ayz : List V := [nf, aq 1, oK]
def ayA : V := .ba [oK, .agg [aq 2, aq 3]]
theorem aCJ : cu (x8 g) 200 (.fn 26 [] []) ayz [] = some (ayA, [], 0) := by kernel_rfl
def ayB : List V := [nf, aq 2, oK]
def ayC : V := .ba [oK, HQ]
theorem aCK : cu (x8 g) 200 (.fn 26 [] []) ayB [] = some (ayC, [], 0) := by kernel_rfl
def ayD : List (List V × V) := [(ayl, aym), (ayn, ayo), (ayp, ayq), (ayr, ays), (ayt, ayu), (ayv, ayw), (ayx, ayy), (ayz, ayA), (ayB, ayC)]
theorem aCL : iS (x8 g) 200 26 ayD := ⟨⟨by kernel_rfl, aCC g⟩, ⟨⟨by kernel_rfl, aCD g⟩, ⟨⟨by kernel_rfl, aCE g⟩, ⟨⟨by kernel_rfl, aCF g⟩, ⟨⟨by kernel_rfl, aCG g⟩, ⟨⟨by kernel_rfl, aCH g⟩, ⟨⟨by kernel_rfl, aCI g⟩, ⟨⟨by kernel_rfl, aCJ g⟩, ⟨⟨by kernel_rfl, aCK g⟩, trivial⟩⟩⟩⟩⟩⟩⟩⟩⟩
def DQ : Nat -> Option ca := over (x8 g) 26 (iR ayD)
def ayE : List V := [nf, rI, .list 1 [aq 0, aq 1, aq 2]]
def ayF : V := .ba [oK, .list 2 [HO, HP, HO], aq 0]
theorem aCM : cu (DQ g) 200 (.fn 8 [] []) ayE [] = some (ayF, [], 0) := by kernel_rfl
def ayG : List V := [nf, oK, .list 1 [aq 2]]
def ayH : V := .ba [oK, .list 2 [HQ], aq 0]
theorem aCN : cu (DQ g) 200 (.fn 8 [] []) ayG [] = some (ayH, [], 0) := by kernel_rfl
def m8 : List (List V × V) := [(ayE, ayF), (ayG, ayH)]
theorem aCO : iS (DQ g) 200 8 m8 := ⟨⟨by kernel_rfl, aCM g⟩, ⟨⟨by kernel_rfl, aCN g⟩, trivial⟩⟩
def HU : Nat -> Option ca := over (DQ g) 8 (iR m8)
def ayI : List V := [nf, rI, aq 2]
def ayJ : V := .ba [.list 1 [rI, uG, oK], aq 0]
theorem aCP : cu (HU g) 200 (.fn 12 [] []) ayI [] = some (ayJ, [], 0) := by kernel_rfl
def m12 : List (List V × V) := [(ayI, ayJ)]
theorem aCQ : iS (HU g) 200 12 m12 := ⟨⟨by kernel_rfl, aCP g⟩, trivial⟩
def DR : Nat -> Option ca := over (HU g) 12 (iR m12)
def ayK : List V := [nf, ago, HP]
def ayL : V := .str [118, 105, 111, 108, 97, 116, 101, 115, 32, 105, 58, 32, 114, 40, 48, 41, 32, 43, 32, 114, 40, 49, 41, 32, 60, 61, 32, 49]
theorem aCR : cu (DR g) 200 (.fn 16 [] []) ayK [] = some (ayL, [], 0) := by kernel_rfl
def ayM : List V := [nf, ag2, HQ]
def ayN : V := .str [110, 101, 101, 100, 115, 32, 45, 114, 40, 48, 41, 32, 60, 61, 32, 45, 49]
theorem aCS : cu (DR g) 200 (.fn 16 [] []) ayM [] = some (ayN, [], 0) := by kernel_rfl
def m16 : List (List V × V) := [(ayK, ayL), (ayM, ayN)]
theorem aCT : iS (DR g) 200 16 m16 := ⟨⟨by kernel_rfl, aCR g⟩, ⟨⟨by kernel_rfl, aCS g⟩, trivial⟩⟩
def Nh : Nat -> Option ca := over (DR g) 16 (iR m16)
theorem afn : cu (Nh g) 200 (.fn 4 [] []) [] [] = some (.bool true, [], 0) := by kernel_rfl
end
end Go.Abs.U
