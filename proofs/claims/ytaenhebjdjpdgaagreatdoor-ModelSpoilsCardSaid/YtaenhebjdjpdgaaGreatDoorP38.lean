/- Texts of this claim, joined and written short by a program. -/
import Derived.Test.YtaenhebjdjpdgaaGreatDoorP34
import Derived.Test.YtaenhebjdjpdgaaGreatDoorP35
import Derived.Test.YtaenhebjdjpdgaaGreatDoorP37
import Derived.Test.YtaenhebjdjpdgaaGreatDoorP00
set_option linter.unusedVariables false
set_option linter.unusedSimpArgs false
set_option linter.unusedSectionVars false
set_option maxRecDepth 100000
namespace Go.Abs.b1
open Go Go.Abs Go.Abs.gB Go.Abs.Lex
noncomputable section
variable {g : Nat -> Option Obj}
theorem avV : ∀ q ∈ ([(10, 2, 16), (11, 12, 64), (13, 22, 104), (14, 24, 24), (15, 6, 72)] : List (Nat × Nat × Nat)), atD bh (ck g) q.1 q.2 := fun q h => by
 simp only [dS, w0, or_false] at h
 rcases h with rfl | rfl | rfl | rfl | rfl
 · exact ⟨8, [.str []], by kernel_rfl, by decide⟩
 · exact ⟨8, [aI 0, aI 0, .c0, aI 0, aI 0, aI 0], by kernel_rfl, by decide⟩
 · exact ⟨8, [aI 0, .c0, .c0, .c0, .c0], by kernel_rfl, by decide⟩
 · exact ⟨8, [aI 0, aI 0, aI 0], by kernel_rfl, by decide⟩
 · exact ⟨8, [.str [], aI 0, .c0, aI 0, aI 0, aI 0], by kernel_rfl, by decide⟩
def t0 : List (bR bh) := []
theorem fx : b6 (ck g) t0 := fun _ h => by cases h
def t5 : List (bR bh) := ⟨5, [], [], [1], fun c a => MD⟩ :: t0
theorem e8 : b6 (ck g) t5 := fx.cons (Ez rfl fun H a r h => by
 cases h
 exact Mi (spec := CA [] (.bool true)) (by kernel_rfl) rfl (by kernel_rfl) H)
def t155 : List (bR bh) := ⟨155, [], [.v 3], [1], fun c a => yt a.1⟩ :: t5
theorem YS : b6 (ck g) t155 := cA cy e8 [] (.two .o (.pu [2] .o)) (by kernel_rfl) fun c a => by kernel_rfl
def t158 : List (bR bh) := ⟨158, [], [.v 3], [1], fun c a => yu a.1⟩ :: t155
theorem YT : b6 (ck g) t158 := cA cy YS [] (.two .o (.pu [2] .o)) (by kernel_rfl) fun c a => by kernel_rfl
def t157 : List (bR bh) := ⟨157, [], [.v 3], [1], fun c a => D2 a.1⟩ :: t158
theorem YU : b6 (ck g) t157 := cA cy YT [] (.two .o (.pc [(.normal, [(.s 2, .p 1)])] .o .o)) (by kernel_rfl) fun c a => by kernel_rfl
def t160 : List (bR bh) := ⟨160, [], [.v 3], [1], fun c a => AM a.1⟩ :: t157
theorem YV : b6 (ck g) t160 := cA cy YU [] (.two .o (.pu [2] .o)) (by kernel_rfl) fun c a => by kernel_rfl
def t347 : List (bR bh) := ⟨347, [], [.v 2, .v 2], [1], fun c a => Nk a.1 a.2.1⟩ :: t160
theorem apg : b6 (ck g) t347 := cA cy YV [] (.two .o (.pc [(.normal, [(.s 4, .p 1)])] .o .o)) (by kernel_rfl) fun c a => by kernel_rfl
def t246 : List (bR bh) := ⟨246, [], [.v 2, .v 2], [1], fun c a => H6 a.1 a.2.1⟩ :: t347
theorem aph : b6 (ck g) t246 := cA cy apg [] .o (by kernel_rfl) fun c a => by kernel_rfl
def t247 : List (bR bh) := ⟨247, [], [.v 2, .v 3], [0], fun c a => strings_IndexByte a.1 a.2.1⟩ :: t246
theorem api : b6 (ck g) t247 := aph.cons (Ez rfl fun H ⟨s, c, _⟩ r h => by
 cases h
 exact Mi (spec := FA) (by kernel_rfl) rfl rfl H)
def t159 : List (bR bh) := ⟨159, [], [.v 2], [0], fun c a => AK a.1⟩ :: t247
theorem YW : b6 (ck g) t159 := cA cy api [(5, 2)] (.two .o (.two (.two .o (.dj [(.s 7, .p 0)] [(.exit 0, []), (.ret, [(.s 2, .c (.int .i64 2))])] .o)) (.two (.pc [(.normal, [(.s 22, .p 1)])] .o .o) .o))) (by kernel_rfl) fun c a => by kernel_rfl
def t161 : List (bR bh) := ⟨161, [], [.v 2], [1], fun c a => DZ a.1⟩ :: t159
theorem YX : b6 (ck g) t161 := cA cy YW [] (.two .o (.pc [(.normal, [(.s 2, .p 1)])] .o .o)) (by kernel_rfl) fun c a => by kernel_rfl
def t156 : List (bR bh) := ⟨156, [], [.v 2, .f [3] 1], [0], fun c a => AL a.1 a.2.1⟩ :: t161
theorem YY : b6 (ck g) t156 := cA cy YX [] (.two .o (.two .o (.two (.dj [(.s 5, .p 0)] [(.exit 0, [(.s 5, .p 0)])] (.two (.pc [(.normal, [(.s 16, .p 1)])] .o .o) .o)) .o))) (by kernel_rfl) fun c a => by kernel_rfl
def t245 : List (bR bh) := ⟨245, [], [.v 3], [1], fun c a => AO a.1⟩ :: t156
theorem YZ : b6 (ck g) t245 := cA cy YY [] .o (by kernel_rfl) fun c a => by kernel_rfl
def t154 : List (bR bh) := ⟨154, [], [.v 2], [0], fun c a => D1 a.1⟩ :: t245
theorem Y0 : b6 (ck g) t154 := cA cy YZ [] (.two .o (.two .o (.two (.dj [(.s 3, .p 0)] [(.exit 0, [(.s 3, .p 0)]), (.ret, [(.s 2, .p 0)])] .o) .o))) (by kernel_rfl) fun c a => by kernel_rfl
def t24 : List (bR bh) := ⟨24, [], [.v 4, .v 7], [1], fun c a => G9 a.1 a.2.1⟩ :: t154
theorem apj : b6 (ck g) t24 := cA cy Y0 [] (.two .o (.two (.two .o (.dj [(.s 5, .p 0)] [(.exit 0, []), (.ret, [(.s 4, .c (.cj false))])] (.two .o (.two (.pc [(.normal, [(.s 27, .p 1)])] .o .o) .o)))) (.pu [4] .o))) (by kernel_rfl) fun c a => by kernel_rfl
def t6 : List (bR bh) := ⟨6, [], [.v 26], [1], fun c a => Hg a.1⟩ :: t24
theorem hC : b6 (ck g) t6 := cA cy apj [] (.two .o (.two (.pc [(.normal, [(.s 56, .p 1)])] .o .o) (.two (.two .o (.dj [(.s 3, .p 0)] [(.exit 0, []), (.ret, [(.s 2, .c (.cj false))])] .o)) (.two (.two .o (.dj [(.s 4, .p 0)] [(.exit 2, []), (.ret, [(.s 2, .c (.cj false))])] .o)) (.two (.two .o (.dj [(.s 5, .p 0)] [(.exit 4, []), (.ret, [(.s 2, .c (.cj false))])] (.two .o (.two (.pc [(.normal, [(.s 111, .p 1)])] .o .o) .o)))) (.two (.two .o (.dj [(.s 6, .p 0)] [(.exit 6, []), (.ret, [(.s 2, .c (.cj false))])] (.two .o (.two (.two .o (.two (.pc [(.normal, [(.s 150, .p 1)])] .o .o) (.two .o (.dj [(.s 8, .p 0)] [(.exit 8, []), (.ret, [(.s 2, .c (.cj false))])] .o)))) .o)))) .o)))))) (by kernel_rfl) fun c a => by kernel_rfl
def t238 : List (bR bh) := ⟨238, [], [.v 27, .v 1], [0], fun c a => Vs a.1 a.2.1⟩ :: t6
theorem apk : b6 (ck g) t238 := cA cy hC [] (.two .o (.two (.two .o (.dj [(.s 8, .p 0)] [(.exit 0, []), (.ret, [(.s 4, .p 0)])] .o)) .o)) (by kernel_rfl) fun c a => by kernel_rfl
def t135 : List (bR bh) := ⟨135, [], [.v 27, .v 1], [1], fun c a => MG a.1 a.2.1⟩ :: t238
theorem apl : b6 (ck g) t135 := cA cy apk [] .o (by kernel_rfl) fun c a => by kernel_rfl
def t61 : List (bR bh) := ⟨61, [], [.v 27], [1], fun c a => Au a.1⟩ :: t135
theorem apm : b6 (ck g) t61 := cA cy apl [] .o (by kernel_rfl) fun c a => by kernel_rfl
def t142 : List (bR bh) := ⟨142, [], [.v 4, .f [0] 1], [0], fun c a => Vt a.1 a.2.1⟩ :: t61
theorem apn : b6 (ck g) t142 := cA cy apm [] (.two .o (.two (.two .o (.dj [(.s 8, .p 0)] [(.exit 0, []), (.ret, [(.s 4, .p 0)])] .o)) .o)) (by kernel_rfl) fun c a => by kernel_rfl
def t73 : List (bR bh) := ⟨73, [], [.v 4, .f [0] 1], [1], fun c a => C7 a.1 a.2.1⟩ :: t142
theorem apo : b6 (ck g) t73 := cA cy apn [] .o (by kernel_rfl) fun c a => by kernel_rfl
def t64 : List (bR bh) := ⟨64, [], [.v 0, .v 0, .v 0], [1], fun c a => Hh a.1 a.2.1 a.2.2.1⟩ :: t73
theorem apq : b6 (ck g) t64 := cA cy apo [] (.two .o (.pu [6] .o)) (by kernel_rfl) fun c a => by kernel_rfl
def t136 : List (bR bh) := ⟨136, [], [.v 0], [1], fun c a => MH a.1⟩ :: t64
theorem apr : b6 (ck g) t136 := cA cy apq [] .o (by kernel_rfl) fun c a => by kernel_rfl
def t62 : List (bR bh) := ⟨62, [], [.v 4], [1], fun c a => Hi a.1⟩ :: t136
theorem aps : b6 (ck g) t62 := cA cy apr [] .o (by kernel_rfl) fun c a => by kernel_rfl
def t39 : List (bR bh) := ⟨39, [], [.v 2], [0], fun c a => G6 a.1⟩ :: t62
theorem apt : b6 (ck g) t39 := aps.cons (Ez rfl fun H ⟨w, _⟩ r h => by
 cases h
 exact ang ⟨ajh YS.hd, aji YT.hd, ajj YU.hd, ajk YV.hd, ajl YX.hd, ajm YW.hd, ajn YY.hd, ajo Y0.hd, ajp YZ.hd, by kernel_rfl, by kernel_rfl, by kernel_rfl, by kernel_rfl, ⟨Fz, by kernel_rfl, by kernel_rfl⟩⟩ w H)
def t63 : List (bR bh) := ⟨63, [], [.v 2], [1], fun c a => yc a.1⟩ :: t39
theorem apu : b6 (ck g) t63 := cA cy apt [] (.two .o (.pc [(.normal, [(.s 2, .p 1)])] .o .o)) (by kernel_rfl) fun c a => by kernel_rfl
def t137 : List (bR bh) := ⟨137, [4], [.v 0], [1], fun c a => MI c a.1⟩ :: t63
theorem apv : b6 (ck g) t137 := cA cy apu [] (.two .o (.pu [3] .o)) (by kernel_rfl) fun c a => by kernel_rfl
def t65 : List (bR bh) := ⟨65, [], [.v 4, .v 4], [1], fun c a => Hj a.1 a.2.1⟩ :: t137
theorem apw : b6 (ck g) t65 := cA cy apv [] (.two .o (.pc [(.normal, [(.s 4, .p 1)])] .o .o)) (by kernel_rfl) fun c a => by kernel_rfl
def t66 : List (bR bh) := ⟨66, [], [.v 6], [1], fun c a => Hk a.1⟩ :: t65
theorem apx : b6 (ck g) t66 := cA cy apw [] (.two .o (.pc [(.normal, []), (.ret, [(.s 2, .p 1)])] (.two .o (.pc [(.normal, [(.s 5, .p 1)])] .o (.two (.pu [2] .o) .o))) .o)) (by kernel_rfl) fun c a => by kernel_rfl
def t67 : List (bR bh) := ⟨67, [], [.v 6], [1], fun c a => Aw a.1⟩ :: t66
theorem apy : b6 (ck g) t67 := cA cy apx [] (.two .o (.pu [2] .o)) (by kernel_rfl) fun c a => by kernel_rfl
def t68 : List (bR bh) := ⟨68, [], [.v 4, .v 4], [0], fun c a => sP a.1 a.2.1⟩ :: t67
theorem apz : b6 (ck g) t68 := cA cy apy [] (.two .o (.two .o (.two (.two .o (.dj [(.s 5, .p 0), (.s 10, .p 0)] [(.exit 0, [(.s 5, .p 0)])] .o)) .o))) (by kernel_rfl) fun c a => by kernel_rfl
def t25 : List (bR bh) := ⟨25, [], [.v 4, .v 7], [1], fun c a => Az a.1 a.2.1⟩ :: t68
theorem apA : b6 (ck g) t25 := cA cy apz [(19, 1), (22, 100), (46, 1)] (.two .o (.two .o (.two .o (.two .o (.two (.two .o (.dj [(.s 25, .p 0), (.m 2 0, .p 0), (.m 1 0, .p 0), (.s 5, .r 100), (.m 0 0, .d)] [(.exit 0, [(.m 2 0, .p 0), (.m 1 0, .p 0)]), (.ret, [(.s 4, .c (.cj false))])] .o)) (.pu [4] .o)))))) (by kernel_rfl) fun c a => by kernel_rfl
def t26 : List (bR bh) := ⟨26, [], [.v 8], [1], fun c a => Da a.1⟩ :: t25
theorem apB : b6 (ck g) t26 := cA cy apA [(6, 100)] (.two .o (.two .o (.two (.two .o (.dj [(.s 9, .p 0), (.s 3, .r 100), (.m 0 0, .d)] [(.exit 0, []), (.ret, [(.s 2, .c (.cj false))])] (.two .o (.two .o (.two (.two .o (.two (.pc [(.normal, [(.s 20, .p 1)])] .o .o) .o)) .o))))) .o))) (by kernel_rfl) fun c a => by kernel_rfl
def t69 : List (bR bh) := ⟨69, [], [.v 28, .v 0], [28], fun c a => C2 a.1 a.2.1⟩ :: t26
theorem apC : b6 (ck g) t69 := apB.cons (Ez rfl fun H ⟨x, n, _⟩ r h => anH ⟨by kernel_rfl, by kernel_rfl, by kernel_rfl⟩ H x n r h)
def t27 : List (bR bh) := ⟨27, [], [.v 4, .v 7, .v 1], [28], fun c a => Hm a.1 a.2.1 a.2.2.1⟩ :: t69
theorem apD : b6 (ck g) t27 := cA cy apC [(27, 5)] (.two .o (.two .o (.two .o (.two (.two .o (.dj [(.s 16, .p 0), (.s 7, .r 28)] [(.exit 0, [(.s 7, .r 28)])] .o)) .o)))) (by kernel_rfl) fun c a => by kernel_rfl
def t46 : List (bR bh) := ⟨46, [], [.v 0, .v 0], [1], fun c a => l4 a.1 a.2.1⟩ :: t27
theorem apE : b6 (ck g) t46 := cA cy apD [] (.two .o (.pu [4] .o)) (by kernel_rfl) fun c a => by kernel_rfl
def t75 : List (bR bh) := ⟨75, [], [.v 0, .v 0], [1], fun c a => yg a.1 a.2.1⟩ :: t46
theorem apF : b6 (ck g) t75 := cA cy apE [] (.two .o (.pu [4] .o)) (by kernel_rfl) fun c a => by kernel_rfl
def t70 : List (bR bh) := ⟨70, [], [.v 29, .v 11], [1], fun c a => Dd a.1 a.2.1⟩ :: t75
theorem apG : b6 (ck g) t70 := cA cy apF [] (.two .o (.two .o (.two (.two .o (.dj [(.s 5, .p 0), (.s 11, .p 0)] [(.exit 0, []), (.ret, [(.s 4, .c (.cj false))])] (.two .o (.two .o (.two (.two .o (.two (.pc [(.normal, [(.s 37, .p 1)])] .o .o) .o)) .o))))) .o))) (by kernel_rfl) fun c a => by kernel_rfl
def t220 : List (bR bh) := ⟨220, [], [.v 7, .f [6] 1], [0], fun c a => Vu a.1 a.2.1⟩ :: t70
theorem apH : b6 (ck g) t220 := cA cy apG [] (.two .o (.two (.two .o (.dj [(.s 8, .p 0)] [(.exit 0, []), (.ret, [(.s 4, .p 0)])] .o)) .o)) (by kernel_rfl) fun c a => by kernel_rfl
def t139 : List (bR bh) := ⟨139, [], [.v 7, .f [6] 1], [1], fun c a => MM a.1 a.2.1⟩ :: t220
theorem apI : b6 (ck g) t139 := cA cy apH [] .o (by kernel_rfl) fun c a => by kernel_rfl
def t140 : List (bR bh) := ⟨140, [12, 29], [.v 6], [1], fun c a => Hn c.1 c.2 a.1⟩ :: t139
theorem apJ : b6 (ck g) t140 := cA cy apI [] (.two .o (.pc [(.normal, [(.s 4, .p 1)])] .o .o)) (by kernel_rfl) fun c a => by kernel_rfl
def t71 : List (bR bh) := ⟨71, [], [.v 29, .v 12], [1], fun c a => Ho a.1 a.2.1⟩ :: t140
theorem apK : b6 (ck g) t71 := cA cy apJ [] (.two .o (.pc [(.normal, [(.s 4, .p 1)])] .o .o)) (by kernel_rfl) fun c a => by kernel_rfl
def t141 : List (bR bh) := ⟨141, [], [.v 10, .v 10], [1], fun c a => AA a.1 a.2.1⟩ :: t71
theorem apL : b6 (ck g) t141 := cA cy apK [] (.two .o (.two .o (.two (.two .o (.dj [(.s 13, .p 0)] [(.exit 0, []), (.ret, [(.s 4, .c (.cj false))])] .o)) .o))) (by kernel_rfl) fun c a => by kernel_rfl
def t72 : List (bR bh) := ⟨72, [], [.v 11, .v 0, .v 0, .v 0], [1], fun c a => Hq a.1 a.2.1 a.2.2.1 a.2.2.2.1⟩ :: t141
theorem apM : b6 (ck g) t72 := cA cy apL [(14, 9)] (.two .o (.pc [(.normal, [(.s 8, .p 1)])] .o .o)) (by kernel_rfl) fun c a => by kernel_rfl
def t28 : List (bR bh) := ⟨28, [], [.v 29], [1], fun c a => Hr a.1⟩ :: t72
theorem apN : b6 (ck g) t28 := cA cy apM [] (.two .o (.two (.pu [23] .o) (.two (.two .o (.dj [(.s 28, .p 0)] [(.exit 0, []), (.ret, [(.s 2, .c (.cj false))])] (.two .o (.two .o (.two (.two .o (.pc [(.normal, []), (.ret, [(.s 2, .c (.cj false))])] (.two .o (.two .o (.two .o (.two (.pc [(.normal, [(.s 60, .p 1)])] .o .o) (.pc [(.normal, [(.s 61, .p 1)])] .o .o))))) (.two .o (.two (.two .o (.pc [(.normal, [(.s 6, .p 0), (.s 7, .p 0)])] .o (.pc [(.normal, [(.s 103, .p 1)])] .o .o))) .o)))) .o))))) .o))) (by kernel_rfl) fun c a => by kernel_rfl
def t74 : List (bR bh) := ⟨74, [29], [.v 0], [1], fun c a => Hs c a.1⟩ :: t28
theorem apO : b6 (ck g) t74 := cA cy apN [] (.two .o (.pu [3] .o)) (by kernel_rfl) fun c a => by kernel_rfl
def t29 : List (bR bh) := ⟨29, [], [.v 29], [1], fun c a => Ht a.1⟩ :: t74
theorem apP : b6 (ck g) t29 := cA cy apO [(17, 2)] (.two .o (.two .o (.two (.two .o (.dj [(.s 10, .p 0), (.s 3, .r 8)] [(.exit 0, [(.s 3, .r 8)]), (.ret, [(.s 2, .c (.cj false))])] (.two .o (.two .o (.two (.two .o (.two .o (.pc [(.normal, [(.s 28, .p 1)])] .o .o))) .o))))) (.pc [(.normal, [(.s 2, .p 1)])] .o .o)))) (by kernel_rfl) fun c a => by kernel_rfl
def t237 : List (bR bh) := ⟨237, [], [.v 0], [1], fun c a => Hu a.1⟩ :: t29
theorem apQ : b6 (ck g) t237 := cA cy apP [] .o (by kernel_rfl) fun c a => by kernel_rfl
def t134 : List (bR bh) := ⟨134, [], [.v 0, .v 0], [0], fun c a => Hv a.1 a.2.1⟩ :: t237
theorem apR : b6 (ck g) t134 := cA cy apQ [] .o (by kernel_rfl) fun c a => by kernel_rfl
def t76 : List (bR bh) := ⟨76, [], [.v 4, .v 4], [0], fun c a => Di a.1 a.2.1⟩ :: t134
theorem apS : b6 (ck g) t76 := cA cy apR [] (.two .o (.two (.two .o (.dj [(.s 11, .p 0)] [(.exit 0, []), (.ret, [(.s 4, .p 0)])] .o)) .o)) (by kernel_rfl) fun c a => by kernel_rfl
def t99 : List (bR bh) := ⟨99, [], [.v 4, .v 7, .v 1, .v 0], [0, 4, 1], fun c a => Hy a.1 a.2.1 a.2.2.1 a.2.2.2.1⟩ :: t76
theorem apT : b6 (ck g) t99 := cA cy apS [(55, 0)] (.two .o (.two (.pc [(.normal, [(.s 24, .p 1)])] .o .o) (.two (.two .o (.dj [(.s 27, .p 0)] [(.exit 0, []), (.ret, [(.s 8, .p 0), (.s 9, .r 4), (.s 10, .c (.cj true))])] (.two .o (.two .o (.two (.two .o (.two .o (.two (.pc [(.normal, [(.s 51, .p 1)])] .o .o) (.two .o (.two (.two .o (.dj [(.s 13, .p 0), (.s 15, .p 0), (.s 14, .r 4), (.m 1 0, .d)] [(.exit 2, [(.s 14, .r 4), (.m 1 0, .d)])] .o)) .o))))) .o))))) .o))) (by kernel_rfl) fun c a => by kernel_rfl
def t143 : List (bR bh) := ⟨143, [], [.v 29, .v 19], [1], fun c a => Hz a.1 a.2.1⟩ :: t99
theorem apU : b6 (ck g) t143 := cA cy apT [] (.two .o (.two .o (.two .o (.two .o (.two .o (.pc [(.normal, [(.s 51, .p 1)])] .o (.two (.pu [4] .o) (.pu [4] .o)))))))) (by kernel_rfl) fun c a => by kernel_rfl
def t241 : List (bR bh) := ⟨241, [], [.v 18, .f [11] 1], [0], fun c a => Vx a.1 a.2.1⟩ :: t143
theorem apV : b6 (ck g) t241 := cA cy apU [] (.two .o (.two (.two .o (.dj [(.s 8, .p 0)] [(.exit 0, []), (.ret, [(.s 4, .p 0)])] .o)) .o)) (by kernel_rfl) fun c a => by kernel_rfl
def t144 : List (bR bh) := ⟨144, [], [.v 18, .f [11] 1], [1], fun c a => MU a.1 a.2.1⟩ :: t241
theorem apW : b6 (ck g) t144 := cA cy apV [] .o (by kernel_rfl) fun c a => by kernel_rfl
def t145 : List (bR bh) := ⟨145, [29], [.v 11], [1], fun c a => HA c a.1⟩ :: t144
theorem apX : b6 (ck g) t145 := cA cy apW [] .o (by kernel_rfl) fun c a => by kernel_rfl
def t77 : List (bR bh) := ⟨77, [], [.v 29, .v 21], [1], fun c a => HB a.1 a.2.1⟩ :: t145
theorem apY : b6 (ck g) t77 := cA cy apX [] (.two .o (.two .o (.two (.two .o (.dj [(.s 5, .p 0), (.s 13, .p 0)] [(.exit 0, []), (.ret, [(.s 4, .c (.cj false))])] (.two .o (.two .o (.two (.two .o (.two (.pc [(.normal, [(.s 39, .p 1)])] .o .o) .o)) .o))))) (.two .o (.two (.two .o (.dj [(.s 5, .p 0), (.s 46, .p 0)] [(.exit 2, []), (.ret, [(.s 4, .c (.cj false))])] (.two .o (.two .o (.two (.two .o (.two (.pc [(.normal, [(.s 59, .p 1)])] .o .o) .o)) .o))))) (.pc [(.normal, [(.s 4, .p 1)])] .o .o)))))) (by kernel_rfl) fun c a => by kernel_rfl
def t30 : List (bR bh) := ⟨30, [], [.v 29], [1], fun c a => HD a.1⟩ :: t77
theorem apZ : b6 (ck g) t30 := cA cy apY [] (.two .o (.two .o (.two (.two .o (.dj [(.s 18, .p 0)] [(.exit 0, []), (.ret, [(.s 2, .c (.cj false))])] (.two .o (.two .o (.two (.two .o (.two (.pc [(.normal, [(.s 45, .p 1)])] .o .o) (.two (.two .o (.dj [(.s 55, .p 0)] [(.exit 2, []), (.ret, [(.s 2, .c (.cj false))])] (.two .o (.two .o (.two (.two .o (.two .o (.pc [(.normal, [(.s 86, .p 1)])] .o .o))) .o))))) (.pc [(.normal, []), (.ret, [(.s 2, .c (.cj false))])] (.two .o (.two (.two .o (.pc [(.normal, [(.s 116, .p 1)])] .o .o)) .o)) .o)))) .o))))) .o))) (by kernel_rfl) fun c a => by kernel_rfl
def t31 : List (bR bh) := ⟨31, [], [.v 29], [1], fun c a => Vq a.1⟩ :: t30
theorem ap0 : b6 (ck g) t31 := apZ.cons (Ez rfl fun H ⟨j, _⟩ r h => by
 cases h
 exact Mi (spec := Bt) (by kernel_rfl) (by simp [IW, ct, bO, VE]) (aop j) H)
def t7 : List (bR bh) := ⟨7, [], [.v 26], [1], fun c a => Dt a.1⟩ :: t31
theorem nM : b6 (ck g) t7 := cA cy ap0 [] (.two .o (.two (.pc [(.normal, [(.s 21, .p 1)])] .o .o) (.two .lt (.pc [(.normal, [(.s 2, .p 1)])] .o .o)))) (by kernel_rfl) fun c a => by kernel_rfl
def t9 : List (bR bh) := ⟨9, [3], [.v 0], [0], fun c a => as3 c a.1⟩ :: t7
theorem avW : b6 (ck g) t9 := cA cy nM [] .o (by kernel_rfl) fun c a => by kernel_rfl
def t37 : List (bR bh) := ⟨37, [], [.v 26, .v 1], [28], fun c a => atp a.1 a.2.1⟩ :: t9
theorem avX : b6 (ck g) t37 := cA cy avW [] .o (by kernel_rfl) fun c a => by kernel_rfl
def t12 : List (bR bh) := ⟨12, [], [.v 26], [28], fun c a => asM a.1⟩ :: t37
theorem avY : b6 (ck g) t12 := cA cy avX [] .o (by kernel_rfl) fun c a => by kernel_rfl
def t16 : List (bR bh) := ⟨16, [], [.v 26, .v 2], [0, 0], fun c a => asW a.1 a.2.1⟩ :: t12
theorem avZ : b6 (ck g) t16 := cA cy avY [] .o (by kernel_rfl) fun c a => by kernel_rfl
def t17 : List (bR bh) := ⟨17, [], [.v 26], [28], fun c a => asV a.1⟩ :: t16
theorem av0 : b6 (ck g) t17 := cA cy avZ [] .o (by kernel_rfl) fun c a => by kernel_rfl
def t18 : List (bR bh) := ⟨18, [], [.v 26, .v 0], [2], fun c a => asX a.1 a.2.1⟩ :: t17
theorem av1 : b6 (ck g) t18 := cA cy av0 [] .o (by kernel_rfl) fun c a => by kernel_rfl
def t19 : List (bR bh) := ⟨19, [], [.v 26, .v 0], [2], fun c a => asY a.1 a.2.1⟩ :: t18
theorem av2 : b6 (ck g) t19 := cA cy av1 [] .o (by kernel_rfl) fun c a => by kernel_rfl
def t4 : List (bR bh) := ⟨4, [], [.v 26, .v 3, .v 3], [1], fun c a => atB a.1 a.2.1 a.2.2.1⟩ :: t19
theorem cR : b6 (ck g) t4 := avG cy av2 [(33, 2), (111, 22), (138, 16), (162, 0), (182, 24)] [(10, 2, 16), (11, 12, 64), (13, 22, 104), (14, 24, 24), (15, 6, 72)] avV (.two .o (.two .o (.two (.pc [(.normal, [(.s 21, .p 1)])] .o .o) (.two .o (.two .o (.two (.two .o (.two .o (.two .o (.pu [36] (.two .o (.pc [(.normal, [(.s 61, .p 1)])] .o (.two .o (.pu [90] (.two (.md 2 10) (.pu [114] (.two .o (.pu [142] (.two .o (.two .o (.two (.md 2 12) (.pu [185] .o)))))))))))))))) (.two .o (.pc [(.normal, [(.s 6, .p 1)])] .o .o)))))))) (by kernel_rfl) fun c a => by kernel_rfl
theorem av3 : ck g 4 = some (.code (yO (ck g) 4)) := (yP (J := bh) (e := ⟨4, [], [.v 26, .v 3, .v 3], [1], fun c a => atB a.1 a.2.1 a.2.2.1⟩) (by kernel_rfl)).1
theorem av4 (m : Model) (a c : Int) (hc : 0 <= c /\ c <= 255) : cK (ck g) (.fn 4 [] []) [uF m, .int .u8 a, .int .u8 c] [] = some (.bool true, [], 0) := cR.hd [] [] () (m, a, c, ()) [] _ true rfl (.nil []) ⟨_, rfl, _, rfl, _, rfl, rfl⟩ (avS m a c hc)
end
end Go.Abs.b1
