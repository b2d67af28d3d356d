/- Texts of this claim, joined and written short by a program. -/
import Derived.Test.YtaenhebjdjpdgaaGreatDoorP35
import Derived.Test.YtaenhebjdjpdgaaGreatDoorP34
import Derived.Test.YtaenhebjdjpdgaaGreatDoorP00
set_option linter.unusedVariables false
set_option linter.unusedSimpArgs false
set_option maxRecDepth 100000
namespace Go.Abs.b1
open Go Go.Abs Go.Abs.gB Go.Abs.Lex
noncomputable section
variable {g : Nat -> Option Obj}
def t0 : List (bR bh) := []
theorem fx : b6 (ck g) t0 := fun _ h => by cases h
def t5 : List (bR bh) := ⟨5, [], [], [1], fun c a => MD⟩ :: t0
theorem e8 : b6 (ck g) t5 := fx.cons (Ez rfl fun H a r h => by
 cases h
 exact Mi (spec := CA [] (.bool true)) (by kernel_rfl) rfl (by kernel_rfl) H)
def t155 : List (bR bh) := ⟨155, [], [.v 3], [1], fun c a => yt a.1⟩ :: t5
theorem YS : b6 (ck g) t155 := cA cy e8 [] (.two .o (.pu [2] .o)) (by kernel_rfl) fun c a => by kernel_rfl
def t158 : List (bR bh) := ⟨158, [], [.v 3], [1], fun c a => yu a.1⟩ :: t155
theorem YT : b6 (ck g) t158 := cA cy YS [] (.two .o (.pu [2] .o)) (by kernel_rfl) fun c a => by kernel_rfl
def t157 : List (bR bh) := ⟨157, [], [.v 3], [1], fun c a => D2 a.1⟩ :: t158
theorem YU : b6 (ck g) t157 := cA cy YT [] (.two .o (.pc [(.normal, [(.s 2, .p 1)])] .o .o)) (by kernel_rfl) fun c a => by kernel_rfl
def t160 : List (bR bh) := ⟨160, [], [.v 3], [1], fun c a => AM a.1⟩ :: t157
theorem YV : b6 (ck g) t160 := cA cy YU [] (.two .o (.pu [2] .o)) (by kernel_rfl) fun c a => by kernel_rfl
def t347 : List (bR bh) := ⟨347, [], [.v 2, .v 2], [1], fun c a => Nk a.1 a.2.1⟩ :: t160
theorem apg : b6 (ck g) t347 := cA cy YV [] (.two .o (.pc [(.normal, [(.s 4, .p 1)])] .o .o)) (by kernel_rfl) fun c a => by kernel_rfl
def t246 : List (bR bh) := ⟨246, [], [.v 2, .v 2], [1], fun c a => H6 a.1 a.2.1⟩ :: t347
theorem aph : b6 (ck g) t246 := cA cy apg [] .o (by kernel_rfl) fun c a => by kernel_rfl
def t247 : List (bR bh) := ⟨247, [], [.v 2, .v 3], [0], fun c a => strings_IndexByte a.1 a.2.1⟩ :: t246
theorem api : b6 (ck g) t247 := aph.cons (Ez rfl fun H ⟨s, c, _⟩ r h => by
 cases h
 exact Mi (spec := FA) (by kernel_rfl) rfl rfl H)
def t159 : List (bR bh) := ⟨159, [], [.v 2], [0], fun c a => AK a.1⟩ :: t247
theorem YW : b6 (ck g) t159 := cA cy api [(5, 2)] (.two .o (.two (.two .o (.dj [(.s 7, .p 0)] [(.exit 0, []), (.ret, [(.s 2, .c (.int .i64 2))])] .o)) (.two (.pc [(.normal, [(.s 22, .p 1)])] .o .o) .o))) (by kernel_rfl) fun c a => by kernel_rfl
def t161 : List (bR bh) := ⟨161, [], [.v 2], [1], fun c a => DZ a.1⟩ :: t159
theorem YX : b6 (ck g) t161 := cA cy YW [] (.two .o (.pc [(.normal, [(.s 2, .p 1)])] .o .o)) (by kernel_rfl) fun c a => by kernel_rfl
def t156 : List (bR bh) := ⟨156, [], [.v 2, .f [3] 1], [0], fun c a => AL a.1 a.2.1⟩ :: t161
theorem YY : b6 (ck g) t156 := cA cy YX [] (.two .o (.two .o (.two (.dj [(.s 5, .p 0)] [(.exit 0, [(.s 5, .p 0)])] (.two (.pc [(.normal, [(.s 16, .p 1)])] .o .o) .o)) .o))) (by kernel_rfl) fun c a => by kernel_rfl
def t245 : List (bR bh) := ⟨245, [], [.v 3], [1], fun c a => AO a.1⟩ :: t156
theorem YZ : b6 (ck g) t245 := cA cy YY [] .o (by kernel_rfl) fun c a => by kernel_rfl
def t154 : List (bR bh) := ⟨154, [], [.v 2], [0], fun c a => D1 a.1⟩ :: t245
theorem Y0 : b6 (ck g) t154 := cA cy YZ [] (.two .o (.two .o (.two (.dj [(.s 3, .p 0)] [(.exit 0, [(.s 3, .p 0)]), (.ret, [(.s 2, .p 0)])] .o) .o))) (by kernel_rfl) fun c a => by kernel_rfl
def t24 : List (bR bh) := ⟨24, [], [.v 4, .v 7], [1], fun c a => G9 a.1 a.2.1⟩ :: t154
theorem apj : b6 (ck g) t24 := cA cy Y0 [] (.two .o (.two (.two .o (.dj [(.s 5, .p 0)] [(.exit 0, []), (.ret, [(.s 4, .c (.cj false))])] (.two .o (.two (.pc [(.normal, [(.s 27, .p 1)])] .o .o) .o)))) (.pu [4] .o))) (by kernel_rfl) fun c a => by kernel_rfl
def t6 : List (bR bh) := ⟨6, [], [.v 26], [1], fun c a => Hg a.1⟩ :: t24
theorem hC : b6 (ck g) t6 := cA cy apj [] (.two .o (.two (.pc [(.normal, [(.s 56, .p 1)])] .o .o) (.two (.two .o (.dj [(.s 3, .p 0)] [(.exit 0, []), (.ret, [(.s 2, .c (.cj false))])] .o)) (.two (.two .o (.dj [(.s 4, .p 0)] [(.exit 2, []), (.ret, [(.s 2, .c (.cj false))])] .o)) (.two (.two .o (.dj [(.s 5, .p 0)] [(.exit 4, []), (.ret, [(.s 2, .c (.cj false))])] (.two .o (.two (.pc [(.normal, [(.s 111, .p 1)])] .o .o) .o)))) (.two (.two .o (.dj [(.s 6, .p 0)] [(.exit 6, []), (.ret, [(.s 2, .c (.cj false))])] (.two .o (.two (.two .o (.two (.pc [(.normal, [(.s 150, .p 1)])] .o .o) (.two .o (.dj [(.s 8, .p 0)] [(.exit 8, []), (.ret, [(.s 2, .c (.cj false))])] .o)))) .o)))) .o)))))) (by kernel_rfl) fun c a => by kernel_rfl
def t238 : List (bR bh) := ⟨238, [], [.v 27, .v 1], [0], fun c a => Vs a.1 a.2.1⟩ :: t6
theorem apk : b6 (ck g) t238 := cA cy hC [] (.two .o (.two (.two .o (.dj [(.s 8, .p 0)] [(.exit 0, []), (.ret, [(.s 4, .p 0)])] .o)) .o)) (by kernel_rfl) fun c a => by kernel_rfl
def t135 : List (bR bh) := ⟨135, [], [.v 27, .v 1], [1], fun c a => MG a.1 a.2.1⟩ :: t238
theorem apl : b6 (ck g) t135 := cA cy apk [] .o (by kernel_rfl) fun c a => by kernel_rfl
def t61 : List (bR bh) := ⟨61, [], [.v 27], [1], fun c a => Au a.1⟩ :: t135
theorem apm : b6 (ck g) t61 := cA cy apl [] .o (by kernel_rfl) fun c a => by kernel_rfl
def t142 : List (bR bh) := ⟨142, [], [.v 4, .f [0] 1], [0], fun c a => Vt a.1 a.2.1⟩ :: t61
theorem apn : b6 (ck g) t142 := cA cy apm [] (.two .o (.two (.two .o (.dj [(.s 8, .p 0)] [(.exit 0, []), (.ret, [(.s 4, .p 0)])] .o)) .o)) (by kernel_rfl) fun c a => by kernel_rfl
def t73 : List (bR bh) := ⟨73, [], [.v 4, .f [0] 1], [1], fun c a => C7 a.1 a.2.1⟩ :: t142
theorem apo : b6 (ck g) t73 := cA cy apn [] .o (by kernel_rfl) fun c a => by kernel_rfl
def t64 : List (bR bh) := ⟨64, [], [.v 0, .v 0, .v 0], [1], fun c a => Hh a.1 a.2.1 a.2.2.1⟩ :: t73
theorem apq : b6 (ck g) t64 := cA cy apo [] (.two .o (.pu [6] .o)) (by kernel_rfl) fun c a => by kernel_rfl
def t136 : List (bR bh) := ⟨136, [], [.v 0], [1], fun c a => MH a.1⟩ :: t64
theorem apr : b6 (ck g) t136 := cA cy apq [] .o (by kernel_rfl) fun c a => by kernel_rfl
def t62 : List (bR bh) := ⟨62, [], [.v 4], [1], fun c a => Hi a.1⟩ :: t136
theorem aps : b6 (ck g) t62 := cA cy apr [] .o (by kernel_rfl) fun c a => by kernel_rfl
def t39 : List (bR bh) := ⟨39, [], [.v 2], [0], fun c a => G6 a.1⟩ :: t62
theorem apt : b6 (ck g) t39 := aps.cons (Ez rfl fun H ⟨w, _⟩ r h => by
 cases h
 exact ang ⟨ajh YS.hd, aji YT.hd, ajj YU.hd, ajk YV.hd, ajl YX.hd, ajm YW.hd, ajn YY.hd, ajo Y0.hd, ajp YZ.hd, by kernel_rfl, by kernel_rfl, by kernel_rfl, by kernel_rfl, ⟨Fz, by kernel_rfl, by kernel_rfl⟩⟩ w H)
def t63 : List (bR bh) := ⟨63, [], [.v 2], [1], fun c a => yc a.1⟩ :: t39
theorem apu : b6 (ck g) t63 := cA cy apt [] (.two .o (.pc [(.normal, [(.s 2, .p 1)])] .o .o)) (by kernel_rfl) fun c a => by kernel_rfl
def t137 : List (bR bh) := ⟨137, [4], [.v 0], [1], fun c a => MI c a.1⟩ :: t63
theorem apv : b6 (ck g) t137 := cA cy apu [] (.two .o (.pu [3] .o)) (by kernel_rfl) fun c a => by kernel_rfl
def t65 : List (bR bh) := ⟨65, [], [.v 4, .v 4], [1], fun c a => Hj a.1 a.2.1⟩ :: t137
theorem apw : b6 (ck g) t65 := cA cy apv [] (.two .o (.pc [(.normal, [(.s 4, .p 1)])] .o .o)) (by kernel_rfl) fun c a => by kernel_rfl
def t66 : List (bR bh) := ⟨66, [], [.v 6], [1], fun c a => Hk a.1⟩ :: t65
theorem apx : b6 (ck g) t66 := cA cy apw [] (.two .o (.pc [(.normal, []), (.ret, [(.s 2, .p 1)])] (.two .o (.pc [(.normal, [(.s 5, .p 1)])] .o (.two (.pu [2] .o) .o))) .o)) (by kernel_rfl) fun c a => by kernel_rfl
def t67 : List (bR bh) := ⟨67, [], [.v 6], [1], fun c a => Aw a.1⟩ :: t66
theorem apy : b6 (ck g) t67 := cA cy apx [] (.two .o (.pu [2] .o)) (by kernel_rfl) fun c a => by kernel_rfl
def t68 : List (bR bh) := ⟨68, [], [.v 4, .v 4], [0], fun c a => sP a.1 a.2.1⟩ :: t67
theorem apz : b6 (ck g) t68 := cA cy apy [] (.two .o (.two .o (.two (.two .o (.dj [(.s 5, .p 0), (.s 10, .p 0)] [(.exit 0, [(.s 5, .p 0)])] .o)) .o))) (by kernel_rfl) fun c a => by kernel_rfl
def t25 : List (bR bh) := ⟨25, [], [.v 4, .v 7], [1], fun c a => Az a.1 a.2.1⟩ :: t68
theorem apA : b6 (ck g) t25 := cA cy apz [(19, 1), (22, 100), (46, 1)] (.two .o (.two .o (.two .o (.two .o (.two (.two .o (.dj [(.s 25, .p 0), (.m 2 0, .p 0), (.m 1 0, .p 0), (.s 5, .r 100), (.m 0 0, .d)] [(.exit 0, [(.m 2 0, .p 0), (.m 1 0, .p 0)]), (.ret, [(.s 4, .c (.cj false))])] .o)) (.pu [4] .o)))))) (by kernel_rfl) fun c a => by kernel_rfl
def t26 : List (bR bh) := ⟨26, [], [.v 8], [1], fun c a => Da a.1⟩ :: t25
theorem apB : b6 (ck g) t26 := cA cy apA [(6, 100)] (.two .o (.two .o (.two (.two .o (.dj [(.s 9, .p 0), (.s 3, .r 100), (.m 0 0, .d)] [(.exit 0, []), (.ret, [(.s 2, .c (.cj false))])] (.two .o (.two .o (.two (.two .o (.two (.pc [(.normal, [(.s 20, .p 1)])] .o .o) .o)) .o))))) .o))) (by kernel_rfl) fun c a => by kernel_rfl
def t69 : List (bR bh) := ⟨69, [], [.v 28, .v 0], [28], fun c a => C2 a.1 a.2.1⟩ :: t26
theorem apC : b6 (ck g) t69 := apB.cons (Ez rfl fun H ⟨x, n, _⟩ r h => anH ⟨by kernel_rfl, by kernel_rfl, by kernel_rfl⟩ H x n r h)
def t27 : List (bR bh) := ⟨27, [], [.v 4, .v 7, .v 1], [28], fun c a => Hm a.1 a.2.1 a.2.2.1⟩ :: t69
theorem apD : b6 (ck g) t27 := cA cy apC [(27, 5)] (.two .o (.two .o (.two .o (.two (.two .o (.dj [(.s 16, .p 0), (.s 7, .r 28)] [(.exit 0, [(.s 7, .r 28)])] .o)) .o)))) (by kernel_rfl) fun c a => by kernel_rfl
def t46 : List (bR bh) := ⟨46, [], [.v 0, .v 0], [1], fun c a => l4 a.1 a.2.1⟩ :: t27
theorem apE : b6 (ck g) t46 := cA cy apD [] (.two .o (.pu [4] .o)) (by kernel_rfl) fun c a => by kernel_rfl
def t75 : List (bR bh) := ⟨75, [], [.v 0, .v 0], [1], fun c a => yg a.1 a.2.1⟩ :: t46
theorem apF : b6 (ck g) t75 := cA cy apE [] (.two .o (.pu [4] .o)) (by kernel_rfl) fun c a => by kernel_rfl
def t70 : List (bR bh) := ⟨70, [], [.v 29, .v 11], [1], fun c a => Dd a.1 a.2.1⟩ :: t75
theorem apG : b6 (ck g) t70 := cA cy apF [] (.two .o (.two .o (.two (.two .o (.dj [(.s 5, .p 0), (.s 11, .p 0)] [(.exit 0, []), (.ret, [(.s 4, .c (.cj false))])] (.two .o (.two .o (.two (.two .o (.two (.pc [(.normal, [(.s 37, .p 1)])] .o .o) .o)) .o))))) .o))) (by kernel_rfl) fun c a => by kernel_rfl
def t220 : List (bR bh) := ⟨220, [], [.v 7, .f [6] 1], [0], fun c a => Vu a.1 a.2.1⟩ :: t70
theorem apH : b6 (ck g) t220 := cA cy apG [] (.two .o (.two (.two .o (.dj [(.s 8, .p 0)] [(.exit 0, []), (.ret, [(.s 4, .p 0)])] .o)) .o)) (by kernel_rfl) fun c a => by kernel_rfl
def t139 : List (bR bh) := ⟨139, [], [.v 7, .f [6] 1], [1], fun c a => MM a.1 a.2.1⟩ :: t220
theorem apI : b6 (ck g) t139 := cA cy apH [] .o (by kernel_rfl) fun c a => by kernel_rfl
def t140 : List (bR bh) := ⟨140, [12, 29], [.v 6], [1], fun c a => Hn c.1 c.2 a.1⟩ :: t139
theorem apJ : b6 (ck g) t140 := cA cy apI [] (.two .o (.pc [(.normal, [(.s 4, .p 1)])] .o .o)) (by kernel_rfl) fun c a => by kernel_rfl
def t71 : List (bR bh) := ⟨71, [], [.v 29, .v 12], [1], fun c a => Ho a.1 a.2.1⟩ :: t140
theorem apK : b6 (ck g) t71 := cA cy apJ [] (.two .o (.pc [(.normal, [(.s 4, .p 1)])] .o .o)) (by kernel_rfl) fun c a => by kernel_rfl
def t141 : List (bR bh) := ⟨141, [], [.v 10, .v 10], [1], fun c a => AA a.1 a.2.1⟩ :: t71
theorem apL : b6 (ck g) t141 := cA cy apK [] (.two .o (.two .o (.two (.two .o (.dj [(.s 13, .p 0)] [(.exit 0, []), (.ret, [(.s 4, .c (.cj false))])] .o)) .o))) (by kernel_rfl) fun c a => by kernel_rfl
def t72 : List (bR bh) := ⟨72, [], [.v 11, .v 0, .v 0, .v 0], [1], fun c a => Hq a.1 a.2.1 a.2.2.1 a.2.2.2.1⟩ :: t141
theorem apM : b6 (ck g) t72 := cA cy apL [(14, 9)] (.two .o (.pc [(.normal, [(.s 8, .p 1)])] .o .o)) (by kernel_rfl) fun c a => by kernel_rfl
def t28 : List (bR bh) := ⟨28, [], [.v 29], [1], fun c a => Hr a.1⟩ :: t72
theorem apN : b6 (ck g) t28 := cA cy apM [] (.two .o (.two (.pu [23] .o) (.two (.two .o (.dj [(.s 28, .p 0)] [(.exit 0, []), (.ret, [(.s 2, .c (.cj false))])] (.two .o (.two .o (.two (.two .o (.pc [(.normal, []), (.ret, [(.s 2, .c (.cj false))])] (.two .o (.two .o (.two .o (.two (.pc [(.normal, [(.s 60, .p 1)])] .o .o) (.pc [(.normal, [(.s 61, .p 1)])] .o .o))))) (.two .o (.two (.two .o (.pc [(.normal, [(.s 6, .p 0), (.s 7, .p 0)])] .o (.pc [(.normal, [(.s 103, .p 1)])] .o .o))) .o)))) .o))))) .o))) (by kernel_rfl) fun c a => by kernel_rfl
def t74 : List (bR bh) := ⟨74, [29], [.v 0], [1], fun c a => Hs c a.1⟩ :: t28
theorem apO : b6 (ck g) t74 := cA cy apN [] (.two .o (.pu [3] .o)) (by kernel_rfl) fun c a => by kernel_rfl
def t29 : List (bR bh) := ⟨29, [], [.v 29], [1], fun c a => Ht a.1⟩ :: t74
theorem apP : b6 (ck g) t29 := cA cy apO [(17, 2)] (.two .o (.two .o (.two (.two .o (.dj [(.s 10, .p 0), (.s 3, .r 8)] [(.exit 0, [(.s 3, .r 8)]), (.ret, [(.s 2, .c (.cj false))])] (.two .o (.two .o (.two (.two .o (.two .o (.pc [(.normal, [(.s 28, .p 1)])] .o .o))) .o))))) (.pc [(.normal, [(.s 2, .p 1)])] .o .o)))) (by kernel_rfl) fun c a => by kernel_rfl
def t237 : List (bR bh) := ⟨237, [], [.v 0], [1], fun c a => Hu a.1⟩ :: t29
theorem apQ : b6 (ck g) t237 := cA cy apP [] .o (by kernel_rfl) fun c a => by kernel_rfl
def t134 : List (bR bh) := ⟨134, [], [.v 0, .v 0], [0], fun c a => Hv a.1 a.2.1⟩ :: t237
theorem apR : b6 (ck g) t134 := cA cy apQ [] .o (by kernel_rfl) fun c a => by kernel_rfl
def t76 : List (bR bh) := ⟨76, [], [.v 4, .v 4], [0], fun c a => Di a.1 a.2.1⟩ :: t134
theorem apS : b6 (ck g) t76 := cA cy apR [] (.two .o (.two (.two .o (.dj [(.s 11, .p 0)] [(.exit 0, []), (.ret, [(.s 4, .p 0)])] .o)) .o)) (by kernel_rfl) fun c a => by kernel_rfl
def t99 : List (bR bh) := ⟨99, [], [.v 4, .v 7, .v 1, .v 0], [0, 4, 1], fun c a => Hy a.1 a.2.1 a.2.2.1 a.2.2.2.1⟩ :: t76
theorem apT : b6 (ck g) t99 := cA cy apS [(55, 0)] (.two .o (.two (.pc [(.normal, [(.s 24, .p 1)])] .o .o) (.two (.two .o (.dj [(.s 27, .p 0)] [(.exit 0, []), (.ret, [(.s 8, .p 0), (.s 9, .r 4), (.s 10, .c (.cj true))])] (.two .o (.two .o (.two (.two .o (.two .o (.two (.pc [(.normal, [(.s 51, .p 1)])] .o .o) (.two .o (.two (.two .o (.dj [(.s 13, .p 0), (.s 15, .p 0), (.s 14, .r 4), (.m 1 0, .d)] [(.exit 2, [(.s 14, .r 4), (.m 1 0, .d)])] .o)) .o))))) .o))))) .o))) (by kernel_rfl) fun c a => by kernel_rfl
def t143 : List (bR bh) := ⟨143, [], [.v 29, .v 19], [1], fun c a => Hz a.1 a.2.1⟩ :: t99
theorem apU : b6 (ck g) t143 := cA cy apT [] (.two .o (.two .o (.two .o (.two .o (.two .o (.pc [(.normal, [(.s 51, .p 1)])] .o (.two (.pu [4] .o) (.pu [4] .o)))))))) (by kernel_rfl) fun c a => by kernel_rfl
def t241 : List (bR bh) := ⟨241, [], [.v 18, .f [11] 1], [0], fun c a => Vx a.1 a.2.1⟩ :: t143
theorem apV : b6 (ck g) t241 := cA cy apU [] (.two .o (.two (.two .o (.dj [(.s 8, .p 0)] [(.exit 0, []), (.ret, [(.s 4, .p 0)])] .o)) .o)) (by kernel_rfl) fun c a => by kernel_rfl
def t144 : List (bR bh) := ⟨144, [], [.v 18, .f [11] 1], [1], fun c a => MU a.1 a.2.1⟩ :: t241
theorem apW : b6 (ck g) t144 := cA cy apV [] .o (by kernel_rfl) fun c a => by kernel_rfl
def t145 : List (bR bh) := ⟨145, [29], [.v 11], [1], fun c a => HA c a.1⟩ :: t144
theorem apX : b6 (ck g) t145 := cA cy apW [] .o (by kernel_rfl) fun c a => by kernel_rfl
def t77 : List (bR bh) := ⟨77, [], [.v 29, .v 21], [1], fun c a => HB a.1 a.2.1⟩ :: t145
theorem apY : b6 (ck g) t77 := cA cy apX [] (.two .o (.two .o (.two (.two .o (.dj [(.s 5, .p 0), (.s 13, .p 0)] [(.exit 0, []), (.ret, [(.s 4, .c (.cj false))])] (.two .o (.two .o (.two (.two .o (.two (.pc [(.normal, [(.s 39, .p 1)])] .o .o) .o)) .o))))) (.two .o (.two (.two .o (.dj [(.s 5, .p 0), (.s 46, .p 0)] [(.exit 2, []), (.ret, [(.s 4, .c (.cj false))])] (.two .o (.two .o (.two (.two .o (.two (.pc [(.normal, [(.s 59, .p 1)])] .o .o) .o)) .o))))) (.pc [(.normal, [(.s 4, .p 1)])] .o .o)))))) (by kernel_rfl) fun c a => by kernel_rfl
def t30 : List (bR bh) := ⟨30, [], [.v 29], [1], fun c a => HD a.1⟩ :: t77
theorem apZ : b6 (ck g) t30 := cA cy apY [] (.two .o (.two .o (.two (.two .o (.dj [(.s 18, .p 0)] [(.exit 0, []), (.ret, [(.s 2, .c (.cj false))])] (.two .o (.two .o (.two (.two .o (.two (.pc [(.normal, [(.s 45, .p 1)])] .o .o) (.two (.two .o (.dj [(.s 55, .p 0)] [(.exit 2, []), (.ret, [(.s 2, .c (.cj false))])] (.two .o (.two .o (.two (.two .o (.two .o (.pc [(.normal, [(.s 86, .p 1)])] .o .o))) .o))))) (.pc [(.normal, []), (.ret, [(.s 2, .c (.cj false))])] (.two .o (.two (.two .o (.pc [(.normal, [(.s 116, .p 1)])] .o .o)) .o)) .o)))) .o))))) .o))) (by kernel_rfl) fun c a => by kernel_rfl
def t31 : List (bR bh) := ⟨31, [], [.v 29], [1], fun c a => Vq a.1⟩ :: t30
theorem ap0 : b6 (ck g) t31 := apZ.cons (Ez rfl fun H ⟨j, _⟩ r h => by
 cases h
 exact Mi (spec := Bt) (by kernel_rfl) (by simp [IW, ct, bO, VE]) (aop j) H)
def t7 : List (bR bh) := ⟨7, [], [.v 26], [1], fun c a => Dt a.1⟩ :: t31
theorem nM : b6 (ck g) t7 := cA cy ap0 [] (.two .o (.two (.pc [(.normal, [(.s 21, .p 1)])] .o .o) (.two .lt (.pc [(.normal, [(.s 2, .p 1)])] .o .o)))) (by kernel_rfl) fun c a => by kernel_rfl
def t80 : List (bR bh) := ⟨80, [], [.v 4], [1], fun c a => Du a.1⟩ :: t7
theorem ap1 : b6 (ck g) t80 := cA cy nM [] (.two .o (.two (.two .o (.dj [(.s 3, .p 0)] [(.exit 0, []), (.ret, [(.s 2, .c (.cj false))])] (.two .o (.two (.pc [(.normal, [(.s 21, .p 1)])] .o .o) .o)))) .o)) (by kernel_rfl) fun c a => by kernel_rfl
def t81 : List (bR bh) := ⟨81, [], [.v 4, .v 4], [0], fun c a => wc a.1 a.2.1⟩ :: t80
theorem ap2 : b6 (ck g) t81 := cA cy ap1 [] (.two .o (.two (.pc [(.normal, [(.s 14, .p 1)])] .o .o) (.two .o (.two (.two .o (.dj [(.s 5, .p 0), (.s 6, .p 0)] [(.exit 0, [(.s 5, .p 0)]), (.ret, [(.s 4, .c (.int .i64 0))])] (.two .o (.two (.two (.pc [(.normal, [(.s 34, .p 1)])] .o .o) .o) .o)))) .o)))) (by kernel_rfl) fun c a => by kernel_rfl
def t406 : List (bR bh) := ⟨406, [], [.v 3], [1], fun c a => Dw a.1⟩ :: t81
theorem ap3 : b6 (ck g) t406 := cA cy ap2 [] (.two .o (.pu [2] .o)) (by kernel_rfl) fun c a => by kernel_rfl
def t343 : List (bR bh) := ⟨343, [], [.v 2, .v 0], [0], fun c a => Dz a.1 a.2.1⟩ :: t406
theorem ap4 : b6 (ck g) t343 := cA cy ap3 [] (.two .o (.two (.dj [(.s 1, .p 0)] [(.exit 0, [(.s 1, .p 0)])] (.two (.pc [(.normal, [(.s 20, .p 1)])] .o .o) (.two .o (.two (.dj [(.s 1, .p 0)] [(.exit 2, [(.s 1, .p 0)])] (.two (.pc [(.normal, [(.s 34, .p 1)])] .o .o) .o)) .o)))) .o)) (by kernel_rfl) fun c a => by kernel_rfl
def t84 : List (bR bh) := ⟨84, [], [.v 8, .v 2], [1], fun c a => DA a.1 a.2.1⟩ :: t343
theorem ap5 : b6 (ck g) t84 := cA cy ap4 [] (.two .o (.two (.two .o (.dj [(.s 5, .p 0)] [(.exit 0, []), (.ret, [(.s 4, .c (.cj true))])] .o)) .o)) (by kernel_rfl) fun c a => by kernel_rfl
def t407 : List (bR bh) := ⟨407, [], [.v 3], [1], fun c a => AF a.1⟩ :: t84
theorem ap6 : b6 (ck g) t407 := cA cy ap5 [] (.two .o (.pu [2] .o)) (by kernel_rfl) fun c a => by kernel_rfl
def t408 : List (bR bh) := ⟨408, [], [.v 3], [1], fun c a => ym a.1⟩ :: t407
theorem ap7 : b6 (ck g) t408 := cA cy ap6 [] (.two .o (.pu [2] .o)) (by kernel_rfl) fun c a => by kernel_rfl
def t409 : List (bR bh) := ⟨409, [], [], [8], fun c a => HF⟩ :: t408
theorem ap8 : b6 (ck g) t409 := cA cy ap7 [(1, 2)] .o (by kernel_rfl) fun c a => by kernel_rfl
def t462 : List (bR bh) := ⟨462, [], [], [8], fun c a => HG⟩ :: t409
theorem ap9 : b6 (ck g) t462 := cA cy ap8 [(1, 2)] .o (by kernel_rfl) fun c a => by kernel_rfl
def t410 : List (bR bh) := ⟨410, [], [.v 2, .v 0], [0], fun c a => DC a.1 a.2.1⟩ :: t462
theorem aqa : b6 (ck g) t410 := cA cy ap9 [] (.two .o (.two .o (.two (.two .o (.dj [(.s 6, .p 0)] [(.exit 0, []), (.ret, [(.s 4, .p 0)])] (.two .o (.two (.two .o (.pc [(.normal, [(.s 38, .p 1)])] .o .o)) .o)))) .o))) (by kernel_rfl) fun c a => by kernel_rfl
def t344 : List (bR bh) := ⟨344, [], [.v 2, .v 0], [0, 0], fun c a => HJ a.1 a.2.1⟩ :: t410
theorem aqb : b6 (ck g) t344 := cA cy aqa [] (.two .o (.two .o (.two (.two .o (.two (.two (.dj [(.s 6, .p 0)] [(.exit 0, [(.s 6, .p 0)])] (.two (.pc [(.normal, [(.s 34, .p 1)])] .o .o) .o)) .o) .o)) (.two (.two .o (.two (.two (.dj [(.s 6, .p 0)] [(.exit 2, [(.s 6, .p 0)])] (.two (.pc [(.normal, [(.s 58, .p 1)])] .o .o) .o)) .o) .o)) (.two .o (.two (.dj [(.s 6, .p 0)] [(.exit 4, [(.s 6, .p 0)])] (.two (.pc [(.normal, [(.s 106, .p 1)])] .o .o) .o)) .o)))))) (by kernel_rfl) fun c a => by kernel_rfl
def t242 : List (bR bh) := ⟨242, [], [.v 2], [31, 0], fun c a => Na a.1⟩ :: t344
theorem aqc : b6 (ck g) t242 := cA cy aqb [(12, 30), (34, 30), (44, 30)] (.two .o (.two .o (.two .o (.two .o (.two (.dj [(.s 5, .p 0), (.s 4, .r 31)] [(.exit 0, [(.s 5, .p 0), (.s 4, .r 31)])] .o) .o))))) (by kernel_rfl) fun c a => by kernel_rfl
def t147 : List (bR bh) := ⟨147, [], [.v 2], [0], fun c a => HK a.1⟩ :: t242
theorem aqd : b6 (ck g) t147 := cA cy aqc [] (.two .o (.two .o (.two (.pc [(.normal, [(.s 32, .p 1)])] .o .o) .o))) (by kernel_rfl) fun c a => by kernel_rfl
def t82 : List (bR bh) := ⟨82, [], [.v 2], [1], fun c a => mu a.1⟩ :: t147
theorem aqe : b6 (ck g) t82 := cA cy aqd [] (.two .o (.pc [(.normal, [(.s 2, .p 1)])] .o .o)) (by kernel_rfl) fun c a => by kernel_rfl
def t83 : List (bR bh) := ⟨83, [], [.v 0], [1], fun c a => yo a.1⟩ :: t82
theorem aqf : b6 (ck g) t83 := cA cy aqe [] (.two .o (.pu [2] .o)) (by kernel_rfl) fun c a => by kernel_rfl
def t32 : List (bR bh) := ⟨32, [], [.v 4, .v 7], [1], fun c a => AJ a.1 a.2.1⟩ :: t83
theorem aqg : b6 (ck g) t32 := cA cy aqf [] (.two .o (.two (.pc [(.normal, [(.s 23, .p 1)])] .o .o) (.two .o (.two (.two .o (.dj [(.s 5, .p 0), (.s 6, .p 0), (.s 7, .p 0)] [(.exit 0, [(.s 5, .p 0), (.s 6, .p 0)]), (.ret, [(.s 4, .c (.cj false))])] (.two .o (.two (.two .o (.two (.two .o (.dj [(.s 9, .p 0)] [(.exit 2, []), (.ret, [(.s 4, .c (.cj false))])] .o)) (.two .o (.two (.pc [(.normal, [(.s 68, .p 1)])] .o .o) (.two (.pu [87] .o) (.two (.pu [112] .o) .o)))))) .o)))) (.pu [4] .o))))) (by kernel_rfl) fun c a => by kernel_rfl
def t33 : List (bR bh) := ⟨33, [], [.v 8], [1], fun c a => DG a.1⟩ :: t32
theorem aqh : b6 (ck g) t33 := cA cy aqg [] (.two .o (.two (.two .o (.dj [(.s 3, .p 0)] [(.exit 0, []), (.ret, [(.s 2, .c (.cj false))])] (.two .o (.two (.pc [(.normal, [(.s 25, .p 1)])] .o .o) .o)))) .o)) (by kernel_rfl) fun c a => by kernel_rfl
def t148 : List (bR bh) := ⟨148, [], [.v 4, .v 7, .v 1], [28], fun c a => HM a.1 a.2.1 a.2.2.1⟩ :: t33
theorem aqi : b6 (ck g) t148 := cA cy aqh [(10, 5), (49, 5)] (.two .o (.two .o (.two .o (.two (.two .o (.dj [(.s 8, .p 0), (.s 7, .r 28)] [(.exit 0, [(.s 7, .r 28)])] (.two .o (.two (.two .o (.dj [(.s 9, .p 0), (.s 7, .r 28), (.m 0 0, .d)] [(.exit 2, [(.s 7, .r 28), (.m 0 0, .d)])] (.two (.pc [(.normal, [(.s 40, .p 1)])] .o .o) .o))) .o)))) .o)))) (by kernel_rfl) fun c a => by kernel_rfl
def t85 : List (bR bh) := ⟨85, [], [.v 26], [28], fun c a => DH a.1⟩ :: t148
theorem aqj : b6 (ck g) t85 := cA cy aqi [] .o (by kernel_rfl) fun c a => by kernel_rfl
def t149 : List (bR bh) := ⟨149, [], [.v 10, .v 10], [1], fun c a => Nd a.1 a.2.1⟩ :: t85
theorem aqk : b6 (ck g) t149 := cA cy aqj [] (.two .o (.two .o (.two (.two .o (.dj [(.s 5, .p 0)] [(.exit 0, []), (.ret, [(.s 4, .c (.cj false))])] .o)) .o))) (by kernel_rfl) fun c a => by kernel_rfl
def t86 : List (bR bh) := ⟨86, [], [.v 11, .v 11], [1], fun c a => DI a.1 a.2.1⟩ :: t149
theorem aql : b6 (ck g) t86 := cA cy aqk [] (.two .o (.pc [(.normal, [(.s 4, .p 1)])] .o .o)) (by kernel_rfl) fun c a => by kernel_rfl
def t89 : List (bR bh) := ⟨89, [], [.v 0, .v 0], [1], fun c a => uN a.1 a.2.1⟩ :: t86
theorem aqm : b6 (ck g) t89 := cA cy aql [] (.two .o (.pu [4] .o)) (by kernel_rfl) fun c a => by kernel_rfl
def t87 : List (bR bh) := ⟨87, [], [.v 11, .v 0], [1], fun c a => DK a.1 a.2.1⟩ :: t89
theorem aqn : b6 (ck g) t87 := cA cy aqm [] (.two .o (.two (.two .o (.dj [(.s 5, .p 0)] [(.exit 0, []), (.ret, [(.s 4, .c (.cj false))])] (.two .o (.two (.two .o (.pc [(.normal, [(.s 54, .p 1)])] .o .o)) .o)))) .o)) (by kernel_rfl) fun c a => by kernel_rfl
def t88 : List (bR bh) := ⟨88, [], [.v 26, .v 12], [1], fun c a => HO a.1 a.2.1⟩ :: t87
theorem aqo : b6 (ck g) t88 := cA cy aqn [] (.two .o (.two (.pu [17] .o) (.two (.two .o (.dj [(.s 5, .p 0)] [(.exit 0, []), (.ret, [(.s 4, .c (.cj true))])] (.two .o (.two (.two .o (.pc [(.normal, [(.s 69, .p 1)])] .o .o)) .o)))) .o))) (by kernel_rfl) fun c a => by kernel_rfl
def t34 : List (bR bh) := ⟨34, [], [.v 26], [1], fun c a => HP a.1⟩ :: t88
theorem aqp : b6 (ck g) t34 := cA cy aqo [(33, 9), (43, 9)] (.two .o (.two .o (.two (.pu [24] .o) (.two (.two .o (.dj [(.s 4, .p 0)] [(.exit 0, []), (.ret, [(.s 2, .c (.cj false))])] (.two .o (.two (.two .o (.two .o (.pc [(.normal, [(.s 72, .p 1)])] .o .o))) .o)))) (.two (.two .o (.dj [(.s 7, .p 0)] [(.exit 2, []), (.ret, [(.s 2, .c (.cj false))])] (.two .o (.two (.two .o (.two (.pu [95] .o) (.pc [(.normal, [(.s 9, .p 1)])] .o (.pc [(.normal, [(.s 135, .p 1)])] .o .o)))) .o)))) .o))))) (by kernel_rfl) fun c a => by kernel_rfl
def t90 : List (bR bh) := ⟨90, [], [.v 4, .v 4], [1], fun c a => DO a.1 a.2.1⟩ :: t34
theorem aqq : b6 (ck g) t90 := cA cy aqp [] (.two .o (.two (.two .o (.dj [(.s 5, .p 0)] [(.exit 0, []), (.ret, [(.s 4, .p 1)])] (.two (.pu [15] .o) .o))) .o)) (by kernel_rfl) fun c a => by kernel_rfl
def t243 : List (bR bh) := ⟨243, [], [.v 4, .v 4, .v 0], [4], fun c a => DP a.1 a.2.1 a.2.2.1⟩ :: t90
theorem aqr : b6 (ck g) t243 := cA cy aqq [(11, 0)] (.two .o (.two .o (.two (.two .o (.dj [(.s 2, .p 0), (.s 8, .p 0), (.s 7, .r 4), (.m 0 0, .d)] [(.exit 0, [(.s 7, .r 4), (.m 0 0, .d)])] .o)) .o))) (by kernel_rfl) fun c a => by kernel_rfl
def t150 : List (bR bh) := ⟨150, [], [.v 4, .v 7, .v 1, .v 0], [0, 4, 1], fun c a => HQ a.1 a.2.1 a.2.2.1 a.2.2.2.1⟩ :: t243
theorem aqs : b6 (ck g) t150 := cA cy aqr [] (.two .o (.two .o (.two (.two .o (.dj [(.s 11, .p 0)] [(.exit 0, []), (.ret, [(.s 8, .p 0), (.s 9, .p 4), (.s 10, .c (.cj true))])] (.two .o (.two (.two .o (.pc [(.normal, [(.s 56, .p 1)])] .o .o)) .o)))) .o))) (by kernel_rfl) fun c a => by kernel_rfl
def t151 : List (bR bh) := ⟨151, [], [.v 0], [1], fun c a => HR a.1⟩ :: t150
theorem aqt : b6 (ck g) t151 := cA cy aqs [] (.two .o (.pu [2] .o)) (by kernel_rfl) fun c a => by kernel_rfl
def t91 : List (bR bh) := ⟨91, [], [.v 26, .v 21], [1], fun c a => HU a.1 a.2.1⟩ :: t151
theorem aqu : b6 (ck g) t91 := cA cy aqt [] (.two .o (.two .o (.two (.two .o (.dj [(.s 6, .p 0)] [(.exit 0, []), (.ret, [(.s 4, .c (.cj false))])] (.two .o (.two (.two .o (.pc [(.normal, [(.s 65, .p 1)])] .o .o)) .o)))) (.two (.two .o (.dj [(.s 8, .p 0)] [(.exit 2, []), (.ret, [(.s 4, .c (.cj false))])] .o)) (.two (.two .o (.dj [(.s 9, .p 0)] [(.exit 4, []), (.ret, [(.s 4, .c (.cj false))])] (.two .o (.two (.two .o (.two .o (.two (.pc [(.normal, [(.s 121, .p 1)])] .o .o) (.two .o (.two (.pc [(.normal, [(.s 144, .p 1)])] .o .o) (.pc [(.normal, [(.s 169, .p 1)])] .o .o)))))) .o)))) (.pu [4] .o)))))) (by kernel_rfl) fun c a => by kernel_rfl
def t35 : List (bR bh) := ⟨35, [], [.v 26], [1], fun c a => HX a.1⟩ :: t91
theorem aqv : b6 (ck g) t35 := cA cy aqu [(12, 2), (28, 2)] (.two .o (.two .o (.two (.two .o (.dj [(.s 4, .p 0), (.s 3, .r 8)] [(.exit 0, [(.s 3, .r 8)]), (.ret, [(.s 2, .c (.cj false))])] (.two .o (.two (.two .o (.two .o (.two (.two .o (.dj [(.s 6, .p 0)] [(.exit 2, []), (.ret, [(.s 2, .c (.cj false))])] (.two .o (.two (.pc [(.normal, [(.s 53, .p 1)])] .o .o) .o)))) .o))) .o)))) (.two (.pc [(.normal, [(.s 72, .p 1)])] .o .o) (.two (.two .o (.dj [(.s 7, .p 0)] [(.exit 4, []), (.ret, [(.s 2, .c (.cj false))])] (.two .o (.two (.two .o (.two (.pc [(.normal, [(.s 109, .p 1)])] .o .o) (.two (.two .o (.dj [(.s 9, .p 0)] [(.exit 6, []), (.ret, [(.s 2, .c (.cj false))])] (.two .o (.two (.two .o (.pc [(.normal, [(.s 162, .p 1)])] .o .o)) .o)))) (.pc [(.normal, []), (.ret, [(.s 2, .c (.cj false))])] (.two .o (.two (.two .o (.pc [(.normal, [(.s 190, .p 1)])] .o .o)) .o)) .o)))) .o)))) .o))))) (by kernel_rfl) fun c a => by kernel_rfl
def t92 : List (bR bh) := ⟨92, [], [.v 26, .v 0, .v 0, .v 0], [1], fun c a => HY a.1 a.2.1 a.2.2.1 a.2.2.2.1⟩ :: t35
theorem aqw : b6 (ck g) t92 := ajc cy aqv (X := Model × Int × Int × Int) (fun g p => pF (fun b8 bu cq dd => g (b8, bu, cq, dd)) p.1 p.2.1 p.2.2.1 p.2.2.2) (fun _ a => (a.1, a.2.1, a.2.2.1, a.2.2.2.1)) (fun _ _ => rfl) [] (.two .o (.two .o (.two (.two .o (.dj [(.s 9, .p 0)] [(.exit 0, []), (.ret, [(.s 8, .c (.cj true))])] (.two (.pu [21] .o) (.two (.pc [(.normal, [(.s 44, .p 1)])] .o .o) .o)))) .o))) (by kernel_rfl) fun g c a => by kernel_rfl
def t36 : List (bR bh) := ⟨36, [], [.v 26], [1], fun c a => H4 a.1⟩ :: t92
theorem aqx : b6 (ck g) t36 := cA cy aqw [] (.two .o (.two .o (.two (.two .o (.dj [(.s 3, .p 0)] [(.exit 0, []), (.ret, [(.s 2, .c (.cj false))])] (.two .o (.two (.two .o (.two (.pu [54] .o) (.two .lt (.pc [(.normal, [(.s 106, .p 1)])] .o .o)))) .o)))) (.two (.two .o (.dj [(.s 7, .p 0)] [(.exit 2, []), (.ret, [(.s 2, .c (.cj false))])] .o)) .o)))) (by kernel_rfl) fun c a => by kernel_rfl
def t8 : List (bR bh) := ⟨8, [], [.v 26], [1], fun c a => DW a.1⟩ :: t36
theorem LD : b6 (ck g) t8 := cA cy aqx [] (.two .o (.two (.pc [(.normal, [(.s 20, .p 1)])] .o .o) (.pc [(.normal, [(.s 2, .p 1)])] .o .o))) (by kernel_rfl) fun c a => by kernel_rfl
def t3 : List (bR bh) := ⟨3, [], [.v 26], [1], fun c a => H5 a.1⟩ :: t8
theorem bZ : b6 (ck g) t3 := cA cy LD [] (.two .o (.two .o (.pc [(.normal, [(.s 2, .p 1)])] .o .o))) (by kernel_rfl) fun c a => by kernel_rfl
theorem aqy : ck g 3 = some (.code (yO (ck g) 3)) := (yP (J := bh) (e := ⟨3, [], [.v 26], [1], fun c a => H5 a.1⟩) (by kernel_rfl)).1
theorem aqz (m : Model) : cK (ck g) (.fn 3 [] []) [uF m] [] = some (.bool true, [], 0) := bZ.hd [] [] () (m, ()) [] _ true rfl (.nil []) ⟨_, rfl, rfl⟩ (anX m)
end
end Go.Abs.b1
