/- Texts of this claim, joined and written short by a program. -/
import Derived.Test.YtaenhebjdjpdgaaGreatDoorP14
import Derived.Test.YtaenhebjdjpdgaaGreatDoorP00
set_option linter.unusedVariables false
set_option linter.unusedSimpArgs false
set_option linter.unusedSectionVars false
set_option maxRecDepth 100000
namespace Go.Abs.b1
open Go Go.Abs Go.Proofs
noncomputable section
variable (g : Nat -> Option Obj)
def Tv : List V := [Fx, Qi, J7]
def Tw : V := Qj
theorem aeB : cu (CR g) 200 (.fn 387 [] []) Tv [] = some (Tw, [], 0) := by kernel_rfl
def Tx : List V := [Fx, Qk, J7]
def Ty : V := Qj
theorem aeC : cu (CR g) 200 (.fn 387 [] []) Tx [] = some (Ty, [], 0) := by kernel_rfl
def Tz : List (List V × V) := [(Tv, Tw), (Tx, Ty)]
theorem aeD : iS (CR g) 200 387 Tz := ⟨⟨by kernel_rfl, aeB g⟩, ⟨⟨by kernel_rfl, aeC g⟩, trivial⟩⟩
def GF : Nat -> Option ca := over (CR g) 387 (iR Tz)
def TA : List V := [tA, .c0, tA]
def TB : V := .ba [tA, aq 0]
theorem aeE : cu (GF g) 200 (.fn 210 [] []) TA [] = some (TB, [], 0) := by kernel_rfl
def TC : List (List V × V) := [(TA, TB)]
theorem aeF : iS (GF g) 200 210 TC := ⟨⟨by kernel_rfl, aeE g⟩, trivial⟩
def jQ : Nat -> Option ca := over (GF g) 210 (iR TC)
def TD : List V := [PZ]
def TE : V := aq 1
theorem aeG : cu (jQ g) 200 (.fn 107 [] []) TD [] = some (TE, [], 0) := by kernel_rfl
def TF : List V := [P0]
def TG : V := aq 2
theorem aeH : cu (jQ g) 200 (.fn 107 [] []) TF [] = some (TG, [], 0) := by kernel_rfl
def TH : List V := [P1]
def TI : V := aq 1
theorem aeI : cu (jQ g) 200 (.fn 107 [] []) TH [] = some (TI, [], 0) := by kernel_rfl
def TJ : List V := [P2]
def TK : V := aq 2
theorem aeJ : cu (jQ g) 200 (.fn 107 [] []) TJ [] = some (TK, [], 0) := by kernel_rfl
def TL : List V := [P3]
def TM : V := aq 3
theorem aeK : cu (jQ g) 200 (.fn 107 [] []) TL [] = some (TM, [], 0) := by kernel_rfl
def TN : List V := [P4]
def TP : V := aq 4
theorem aeL : cu (jQ g) 200 (.fn 107 [] []) TN [] = some (TP, [], 0) := by kernel_rfl
def TQ : List V := [P5]
def TR : V := aq 1
theorem aeM : cu (jQ g) 200 (.fn 107 [] []) TQ [] = some (TR, [], 0) := by kernel_rfl
def TS : List V := [P6]
def TT : V := aq 2
theorem aeN : cu (jQ g) 200 (.fn 107 [] []) TS [] = some (TT, [], 0) := by kernel_rfl
def TU : List V := [P7]
def TV : V := aq 3
theorem aeO : cu (jQ g) 200 (.fn 107 [] []) TU [] = some (TV, [], 0) := by kernel_rfl
def TW : List V := [P8]
def TX : V := aq 1
theorem aeP : cu (jQ g) 200 (.fn 107 [] []) TW [] = some (TX, [], 0) := by kernel_rfl
def TY : List V := [P9]
def TZ : V := aq 1
theorem aeQ : cu (jQ g) 200 (.fn 107 [] []) TY [] = some (TZ, [], 0) := by kernel_rfl
def T0 : List V := [Qa]
def T1 : V := aq 1
theorem aeR : cu (jQ g) 200 (.fn 107 [] []) T0 [] = some (T1, [], 0) := by kernel_rfl
def T2 : List V := [Fx]
def T3 : V := aq 2
theorem aeS : cu (jQ g) 200 (.fn 107 [] []) T2 [] = some (T3, [], 0) := by kernel_rfl
def T4 : List V := [Qc]
def T5 : V := aq 3
theorem aeT : cu (jQ g) 200 (.fn 107 [] []) T4 [] = some (T5, [], 0) := by kernel_rfl
def T6 : List V := [Qd]
def T7 : V := aq 1
theorem aeU : cu (jQ g) 200 (.fn 107 [] []) T6 [] = some (T7, [], 0) := by kernel_rfl
def T8 : List V := [Qe]
def T9 : V := aq 2
theorem aeV : cu (jQ g) 200 (.fn 107 [] []) T8 [] = some (T9, [], 0) := by kernel_rfl
def Ua : List V := [Qf]
def Ub : V := aq 3
theorem aeW : cu (jQ g) 200 (.fn 107 [] []) Ua [] = some (Ub, [], 0) := by kernel_rfl
def Uc : List V := [Fy]
def Ud : V := aq 4
theorem aeX : cu (jQ g) 200 (.fn 107 [] []) Uc [] = some (Ud, [], 0) := by kernel_rfl
def Ue : List V := [Qg]
def Uf : V := aq 5
theorem aeY : cu (jQ g) 200 (.fn 107 [] []) Ue [] = some (Uf, [], 0) := by kernel_rfl
def Ug : List V := [tA]
def Uh : V := aq 6
theorem aeZ : cu (jQ g) 200 (.fn 107 [] []) Ug [] = some (Uh, [], 0) := by kernel_rfl
def Ui : List (List V × V) := [(TD, TE), (TF, TG), (TH, TI), (TJ, TK), (TL, TM), (TN, TP), (TQ, TR), (TS, TT), (TU, TV), (TW, TX), (TY, TZ), (T0, T1), (T2, T3), (T4, T5), (T6, T7), (T8, T9), (Ua, Ub), (Uc, Ud), (Ue, Uf), (Ug, Uh)]
theorem ae0 : iS (jQ g) 200 107 Ui := ⟨⟨by kernel_rfl, aeG g⟩, ⟨⟨by kernel_rfl, aeH g⟩, ⟨⟨by kernel_rfl, aeI g⟩, ⟨⟨by kernel_rfl, aeJ g⟩, ⟨⟨by kernel_rfl, aeK g⟩, ⟨⟨by kernel_rfl, aeL g⟩, ⟨⟨by kernel_rfl, aeM g⟩, ⟨⟨by kernel_rfl, aeN g⟩, ⟨⟨by kernel_rfl, aeO g⟩, ⟨⟨by kernel_rfl, aeP g⟩, ⟨⟨by kernel_rfl, aeQ g⟩, ⟨⟨by kernel_rfl, aeR g⟩, ⟨⟨by kernel_rfl, aeS g⟩, ⟨⟨by kernel_rfl, aeT g⟩, ⟨⟨by kernel_rfl, aeU g⟩, ⟨⟨by kernel_rfl, aeV g⟩, ⟨⟨by kernel_rfl, aeW g⟩, ⟨⟨by kernel_rfl, aeX g⟩, ⟨⟨by kernel_rfl, aeY g⟩, ⟨⟨by kernel_rfl, aeZ g⟩, trivial⟩⟩⟩⟩⟩⟩⟩⟩⟩⟩⟩⟩⟩⟩⟩⟩⟩⟩⟩⟩
def GG : Nat -> Option ca := over (jQ g) 107 (iR Ui)
end
end Go.Abs.b1
