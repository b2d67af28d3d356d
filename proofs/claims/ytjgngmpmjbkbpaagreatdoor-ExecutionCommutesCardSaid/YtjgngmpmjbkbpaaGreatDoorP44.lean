/- Texts of this claim, joined and written short by a program. -/
import Derived.Test.YtjgngmpmjbkbpaaGreatDoorP41
import Derived.Test.YtjgngmpmjbkbpaaGreatDoorP42
import Derived.Test.YtjgngmpmjbkbpaaGreatDoorP43
import Derived.Test.YtjgngmpmjbkbpaaGreatDoorP00
set_option linter.unusedVariables false
set_option linter.unusedSimpArgs false
set_option linter.unusedSectionVars false
set_option maxRecDepth 100000
namespace Go.Abs.U
open Go Go.Abs Go.Abs.gB Go.Abs.Lex
noncomputable section
variable {g : Nat -> Option Obj}
theorem avV : ∀ q ∈ ([(25, 0, 8)] : List (Nat × Nat × Nat)), atD bh (ck g) q.1 q.2 := fun q h => by
 simp only [dS, w0, or_false] at h
 rcases h with rfl
 exact ⟨8, [aI 0], by kernel_rfl, by decide⟩
def t0 : List (bR bh) := []
theorem fx : b6 (ck g) t0 := fun _ h => by cases h
def t4 : List (bR bh) := ⟨4, [], [], [1], fun c a => Ni⟩ :: t0
theorem cR : b6 (ck g) t4 := fx.cons (Ez rfl fun H a r h => by
 cases h
 exact Mi (spec := CA [] (.bool true)) (by kernel_rfl) rfl (by kernel_rfl) H)
def t316 : List (bR bh) := ⟨316, [], [.v 3], [1], fun c a => yt a.1⟩ :: t4
theorem azp : b6 (ck g) t316 := cA cy cR [] (.two .o (.pu [2] .o)) (by kernel_rfl) fun c a => by kernel_rfl
def t319 : List (bR bh) := ⟨319, [], [.v 3], [1], fun c a => yu a.1⟩ :: t316
theorem azq : b6 (ck g) t319 := cA cy azp [] (.two .o (.pu [2] .o)) (by kernel_rfl) fun c a => by kernel_rfl
def t318 : List (bR bh) := ⟨318, [], [.v 3], [1], fun c a => D2 a.1⟩ :: t319
theorem azr : b6 (ck g) t318 := cA cy azq [] (.two .o (.pc [(.normal, [(.s 2, .p 1)])] .o .o)) (by kernel_rfl) fun c a => by kernel_rfl
def t321 : List (bR bh) := ⟨321, [], [.v 3], [1], fun c a => AM a.1⟩ :: t318
theorem azs : b6 (ck g) t321 := cA cy azr [] (.two .o (.pu [2] .o)) (by kernel_rfl) fun c a => by kernel_rfl
def t442 : List (bR bh) := ⟨442, [], [.v 2, .v 2], [1], fun c a => Nk a.1 a.2.1⟩ :: t321
theorem aEt : b6 (ck g) t442 := cA cy azs [] (.two .o (.pc [(.normal, [(.s 4, .p 1)])] .o .o)) (by kernel_rfl) fun c a => by kernel_rfl
def t384 : List (bR bh) := ⟨384, [], [.v 2, .v 2], [1], fun c a => H6 a.1 a.2.1⟩ :: t442
theorem aEu : b6 (ck g) t384 := cA cy aEt [] .o (by kernel_rfl) fun c a => by kernel_rfl
def t385 : List (bR bh) := ⟨385, [], [.v 2, .v 3], [0], fun c a => strings_IndexByte a.1 a.2.1⟩ :: t384
theorem aEv : b6 (ck g) t385 := aEu.cons (Ez rfl fun H ⟨s, c, _⟩ r h => by
 cases h
 exact Mi (spec := FA) (by kernel_rfl) rfl rfl H)
def t320 : List (bR bh) := ⟨320, [], [.v 2], [0], fun c a => AK a.1⟩ :: t385
theorem azt : b6 (ck g) t320 := cA cy aEv [(5, 2)] (.two .o (.two (.two .o (.dj [(.s 7, .p 0)] [(.exit 0, []), (.ret, [(.s 2, .c (.int .i64 2))])] .o)) (.two (.pc [(.normal, [(.s 22, .p 1)])] .o .o) .o))) (by kernel_rfl) fun c a => by kernel_rfl
def t322 : List (bR bh) := ⟨322, [], [.v 2], [1], fun c a => DZ a.1⟩ :: t320
theorem azu : b6 (ck g) t322 := cA cy azt [] (.two .o (.pc [(.normal, [(.s 2, .p 1)])] .o .o)) (by kernel_rfl) fun c a => by kernel_rfl
def t317 : List (bR bh) := ⟨317, [], [.v 2, .f [3] 1], [0], fun c a => AL a.1 a.2.1⟩ :: t322
theorem azv : b6 (ck g) t317 := cA cy azu [] (.two .o (.two .o (.two (.dj [(.s 5, .p 0)] [(.exit 0, [(.s 5, .p 0)])] (.two (.pc [(.normal, [(.s 16, .p 1)])] .o .o) .o)) .o))) (by kernel_rfl) fun c a => by kernel_rfl
def t383 : List (bR bh) := ⟨383, [], [.v 3], [1], fun c a => AO a.1⟩ :: t317
theorem azw : b6 (ck g) t383 := cA cy azv [] .o (by kernel_rfl) fun c a => by kernel_rfl
def t315 : List (bR bh) := ⟨315, [], [.v 2], [0], fun c a => D1 a.1⟩ :: t383
theorem azx : b6 (ck g) t315 := cA cy azw [] (.two .o (.two .o (.two (.dj [(.s 3, .p 0)] [(.exit 0, [(.s 3, .p 0)]), (.ret, [(.s 2, .p 0)])] .o) .o))) (by kernel_rfl) fun c a => by kernel_rfl
def t18 : List (bR bh) := ⟨18, [], [.v 6, .v 9], [1], fun c a => G9 a.1 a.2.1⟩ :: t315
theorem av1 : b6 (ck g) t18 := cA cy azx [] (.two .o (.two (.two .o (.dj [(.s 5, .p 0)] [(.exit 0, []), (.ret, [(.s 4, .c (.cj false))])] (.two .o (.two (.pc [(.normal, [(.s 27, .p 1)])] .o .o) .o)))) (.pu [4] .o))) (by kernel_rfl) fun c a => by kernel_rfl
def t5 : List (bR bh) := ⟨5, [], [.v 26], [1], fun c a => Hg a.1⟩ :: t18
theorem e8 : b6 (ck g) t5 := cA cy av1 [] (.two .o (.two (.pc [(.normal, [(.s 56, .p 1)])] .o .o) (.two (.two .o (.dj [(.s 3, .p 0)] [(.exit 0, []), (.ret, [(.s 2, .c (.cj false))])] .o)) (.two (.two .o (.dj [(.s 4, .p 0)] [(.exit 2, []), (.ret, [(.s 2, .c (.cj false))])] .o)) (.two (.two .o (.dj [(.s 5, .p 0)] [(.exit 4, []), (.ret, [(.s 2, .c (.cj false))])] (.two .o (.two (.pc [(.normal, [(.s 111, .p 1)])] .o .o) .o)))) (.two (.two .o (.dj [(.s 6, .p 0)] [(.exit 6, []), (.ret, [(.s 2, .c (.cj false))])] (.two .o (.two (.two .o (.two (.pc [(.normal, [(.s 150, .p 1)])] .o .o) (.two .o (.dj [(.s 8, .p 0)] [(.exit 8, []), (.ret, [(.s 2, .c (.cj false))])] .o)))) .o)))) .o)))))) (by kernel_rfl) fun c a => by kernel_rfl
def t6 : List (bR bh) := ⟨6, [], [.v 6], [1], fun c a => HW a.1⟩ :: t5
theorem hC : b6 (ck g) t6 := cA cy e8 [] (.two .o (.two (.two .o (.dj [(.s 3, .p 0)] [(.exit 0, []), (.ret, [(.s 2, .c (.cj false))])] (.two .o (.two (.pc [(.normal, [(.s 21, .p 1)])] .o .o) .o)))) .o)) (by kernel_rfl) fun c a => by kernel_rfl
def t49 : List (bR bh) := ⟨49, [], [.v 6, .f [0] 1], [0], fun c a => Vt a.1 a.2.1⟩ :: t6
theorem aEw : b6 (ck g) t49 := cA cy hC [] (.two .o (.two (.two .o (.dj [(.s 8, .p 0)] [(.exit 0, []), (.ret, [(.s 4, .p 0)])] .o)) .o)) (by kernel_rfl) fun c a => by kernel_rfl
def t23 : List (bR bh) := ⟨23, [], [.v 6, .f [0] 1], [1], fun c a => C7 a.1 a.2.1⟩ :: t49
theorem aEx : b6 (ck g) t23 := cA cy aEw [] .o (by kernel_rfl) fun c a => by kernel_rfl
def t262 : List (bR bh) := ⟨262, [6], [.v 0], [1], fun c a => MI c a.1⟩ :: t23
theorem aEy : b6 (ck g) t262 := cA cy aEx [] (.two .o (.pu [3] .o)) (by kernel_rfl) fun c a => by kernel_rfl
def t153 : List (bR bh) := ⟨153, [], [.v 6, .v 6], [1], fun c a => Hj a.1 a.2.1⟩ :: t262
theorem aEz : b6 (ck g) t153 := cA cy aEy [] (.two .o (.pc [(.normal, [(.s 4, .p 1)])] .o .o)) (by kernel_rfl) fun c a => by kernel_rfl
def t183 : List (bR bh) := ⟨183, [], [.v 0, .v 0, .v 0], [1], fun c a => Hh a.1 a.2.1 a.2.2.1⟩ :: t153
theorem aEA : b6 (ck g) t183 := cA cy aEz [] (.two .o (.pu [6] .o)) (by kernel_rfl) fun c a => by kernel_rfl
def t263 : List (bR bh) := ⟨263, [], [.v 0], [1], fun c a => MH a.1⟩ :: t183
theorem aEB : b6 (ck g) t263 := cA cy aEA [] .o (by kernel_rfl) fun c a => by kernel_rfl
def t154 : List (bR bh) := ⟨154, [], [.v 6], [1], fun c a => Hi a.1⟩ :: t263
theorem Y0 : b6 (ck g) t154 := cA cy aEB [] .o (by kernel_rfl) fun c a => by kernel_rfl
def t372 : List (bR bh) := ⟨372, [], [.v 27, .v 1], [0], fun c a => Vs a.1 a.2.1⟩ :: t154
theorem aEC : b6 (ck g) t372 := cA cy Y0 [] (.two .o (.two (.two .o (.dj [(.s 8, .p 0)] [(.exit 0, []), (.ret, [(.s 4, .p 0)])] .o)) .o)) (by kernel_rfl) fun c a => by kernel_rfl
def t299 : List (bR bh) := ⟨299, [], [.v 27, .v 1], [1], fun c a => MG a.1 a.2.1⟩ :: t372
theorem aED : b6 (ck g) t299 := cA cy aEC [] .o (by kernel_rfl) fun c a => by kernel_rfl
def t181 : List (bR bh) := ⟨181, [], [.v 27], [1], fun c a => Au a.1⟩ :: t299
theorem aEE : b6 (ck g) t181 := cA cy aED [] .o (by kernel_rfl) fun c a => by kernel_rfl
def t208 : List (bR bh) := ⟨208, [], [.v 2], [0], fun c a => G6 a.1⟩ :: t181
theorem aEF : b6 (ck g) t208 := aEE.cons (Ez rfl fun H ⟨w, _⟩ r h => by
 cases h
 exact ang ⟨ajh azp.hd, aji azq.hd, ajj azr.hd, ajk azs.hd, ajl azu.hd, ajm azt.hd, ajn azv.hd, ajo azx.hd, ajp azw.hd, by kernel_rfl, by kernel_rfl, by kernel_rfl, by kernel_rfl, ⟨Fz, by kernel_rfl, by kernel_rfl⟩⟩ w H)
def t182 : List (bR bh) := ⟨182, [], [.v 2], [1], fun c a => yc a.1⟩ :: t208
theorem aEG : b6 (ck g) t182 := cA cy aEF [] (.two .o (.pc [(.normal, [(.s 2, .p 1)])] .o .o)) (by kernel_rfl) fun c a => by kernel_rfl
def t184 : List (bR bh) := ⟨184, [], [.v 8], [1], fun c a => Hk a.1⟩ :: t182
theorem aEH : b6 (ck g) t184 := cA cy aEG [] (.two .o (.pc [(.normal, []), (.ret, [(.s 2, .p 1)])] (.two .o (.pc [(.normal, [(.s 5, .p 1)])] .o (.two (.pu [2] .o) .o))) .o)) (by kernel_rfl) fun c a => by kernel_rfl
def t185 : List (bR bh) := ⟨185, [], [.v 8], [1], fun c a => Aw a.1⟩ :: t184
theorem aEI : b6 (ck g) t185 := cA cy aEH [] (.two .o (.pu [2] .o)) (by kernel_rfl) fun c a => by kernel_rfl
def t186 : List (bR bh) := ⟨186, [], [.v 6, .v 6], [0], fun c a => sP a.1 a.2.1⟩ :: t185
theorem aEJ : b6 (ck g) t186 := cA cy aEI [] (.two .o (.two .o (.two (.two .o (.dj [(.s 5, .p 0), (.s 10, .p 0)] [(.exit 0, [(.s 5, .p 0)])] .o)) .o))) (by kernel_rfl) fun c a => by kernel_rfl
def t89 : List (bR bh) := ⟨89, [], [.v 6, .v 9], [1], fun c a => Az a.1 a.2.1⟩ :: t186
theorem aEK : b6 (ck g) t89 := cA cy aEJ [(19, 1), (22, 100), (46, 1)] (.two .o (.two .o (.two .o (.two .o (.two (.two .o (.dj [(.s 25, .p 0), (.m 2 0, .p 0), (.m 1 0, .p 0), (.s 5, .r 100), (.m 0 0, .d)] [(.exit 0, [(.m 2 0, .p 0), (.m 1 0, .p 0)]), (.ret, [(.s 4, .c (.cj false))])] .o)) (.pu [4] .o)))))) (by kernel_rfl) fun c a => by kernel_rfl
def t90 : List (bR bh) := ⟨90, [], [.v 10], [1], fun c a => Da a.1⟩ :: t89
theorem aEL : b6 (ck g) t90 := cA cy aEK [(6, 100)] (.two .o (.two .o (.two (.two .o (.dj [(.s 9, .p 0), (.s 3, .r 100), (.m 0 0, .d)] [(.exit 0, []), (.ret, [(.s 2, .c (.cj false))])] (.two .o (.two .o (.two (.two .o (.two (.pc [(.normal, [(.s 20, .p 1)])] .o .o) .o)) .o))))) .o))) (by kernel_rfl) fun c a => by kernel_rfl
def t187 : List (bR bh) := ⟨187, [], [.v 28, .v 0], [28], fun c a => C2 a.1 a.2.1⟩ :: t90
theorem aEM : b6 (ck g) t187 := aEL.cons (Ez rfl fun H ⟨x, n, _⟩ r h => anH ⟨by kernel_rfl, by kernel_rfl, by kernel_rfl⟩ H x n r h)
def t91 : List (bR bh) := ⟨91, [], [.v 6, .v 9, .v 1], [28], fun c a => Hm a.1 a.2.1 a.2.2.1⟩ :: t187
theorem aEN : b6 (ck g) t91 := cA cy aEM [(27, 7)] (.two .o (.two .o (.two .o (.two (.two .o (.dj [(.s 16, .p 0), (.s 7, .r 28)] [(.exit 0, [(.s 7, .r 28)])] .o)) .o)))) (by kernel_rfl) fun c a => by kernel_rfl
def t188 : List (bR bh) := ⟨188, [], [.v 0, .v 0], [1], fun c a => l4 a.1 a.2.1⟩ :: t91
theorem aEO : b6 (ck g) t188 := cA cy aEN [] (.two .o (.pu [4] .o)) (by kernel_rfl) fun c a => by kernel_rfl
def t193 : List (bR bh) := ⟨193, [], [.v 0, .v 0], [1], fun c a => yg a.1 a.2.1⟩ :: t188
theorem aEP : b6 (ck g) t193 := cA cy aEO [] (.two .o (.pu [4] .o)) (by kernel_rfl) fun c a => by kernel_rfl
def t189 : List (bR bh) := ⟨189, [], [.v 29, .v 13], [1], fun c a => Dd a.1 a.2.1⟩ :: t193
theorem aEQ : b6 (ck g) t189 := cA cy aEP [] (.two .o (.two .o (.two (.two .o (.dj [(.s 5, .p 0), (.s 11, .p 0)] [(.exit 0, []), (.ret, [(.s 4, .c (.cj false))])] (.two .o (.two .o (.two (.two .o (.two (.pc [(.normal, [(.s 37, .p 1)])] .o .o) .o)) .o))))) .o))) (by kernel_rfl) fun c a => by kernel_rfl
def t162 : List (bR bh) := ⟨162, [], [.v 9, .f [8] 1], [0], fun c a => Vu a.1 a.2.1⟩ :: t189
theorem aER : b6 (ck g) t162 := cA cy aEQ [] (.two .o (.two (.two .o (.dj [(.s 8, .p 0)] [(.exit 0, []), (.ret, [(.s 4, .p 0)])] .o)) .o)) (by kernel_rfl) fun c a => by kernel_rfl
def t301 : List (bR bh) := ⟨301, [], [.v 9, .f [8] 1], [1], fun c a => MM a.1 a.2.1⟩ :: t162
theorem aES : b6 (ck g) t301 := cA cy aER [] .o (by kernel_rfl) fun c a => by kernel_rfl
def t302 : List (bR bh) := ⟨302, [14, 29], [.v 8], [1], fun c a => Hn c.1 c.2 a.1⟩ :: t301
theorem aET : b6 (ck g) t302 := cA cy aES [] (.two .o (.pc [(.normal, [(.s 4, .p 1)])] .o .o)) (by kernel_rfl) fun c a => by kernel_rfl
def t190 : List (bR bh) := ⟨190, [], [.v 29, .v 14], [1], fun c a => Ho a.1 a.2.1⟩ :: t302
theorem aEU : b6 (ck g) t190 := cA cy aET [] (.two .o (.pc [(.normal, [(.s 4, .p 1)])] .o .o)) (by kernel_rfl) fun c a => by kernel_rfl
def t303 : List (bR bh) := ⟨303, [], [.v 12, .v 12], [1], fun c a => AA a.1 a.2.1⟩ :: t190
theorem aEV : b6 (ck g) t303 := cA cy aEU [] (.two .o (.two .o (.two (.two .o (.dj [(.s 13, .p 0)] [(.exit 0, []), (.ret, [(.s 4, .c (.cj false))])] .o)) .o))) (by kernel_rfl) fun c a => by kernel_rfl
def t191 : List (bR bh) := ⟨191, [], [.v 13, .v 0, .v 0, .v 0], [1], fun c a => Hq a.1 a.2.1 a.2.2.1 a.2.2.2.1⟩ :: t303
theorem aEW : b6 (ck g) t191 := cA cy aEV [(14, 11)] (.two .o (.pc [(.normal, [(.s 8, .p 1)])] .o .o)) (by kernel_rfl) fun c a => by kernel_rfl
def t92 : List (bR bh) := ⟨92, [], [.v 29], [1], fun c a => Hr a.1⟩ :: t191
theorem aEX : b6 (ck g) t92 := cA cy aEW [] (.two .o (.two (.pu [23] .o) (.two (.two .o (.dj [(.s 28, .p 0)] [(.exit 0, []), (.ret, [(.s 2, .c (.cj false))])] (.two .o (.two .o (.two (.two .o (.pc [(.normal, []), (.ret, [(.s 2, .c (.cj false))])] (.two .o (.two .o (.two .o (.two (.pc [(.normal, [(.s 60, .p 1)])] .o .o) (.pc [(.normal, [(.s 61, .p 1)])] .o .o))))) (.two .o (.two (.two .o (.pc [(.normal, [(.s 6, .p 0), (.s 7, .p 0)])] .o (.pc [(.normal, [(.s 103, .p 1)])] .o .o))) .o)))) .o))))) .o))) (by kernel_rfl) fun c a => by kernel_rfl
def t192 : List (bR bh) := ⟨192, [29], [.v 0], [1], fun c a => Hs c a.1⟩ :: t92
theorem aEY : b6 (ck g) t192 := cA cy aEX [] (.two .o (.pu [3] .o)) (by kernel_rfl) fun c a => by kernel_rfl
def t93 : List (bR bh) := ⟨93, [], [.v 29], [1], fun c a => Ht a.1⟩ :: t192
theorem aEZ : b6 (ck g) t93 := cA cy aEY [(17, 2)] (.two .o (.two .o (.two (.two .o (.dj [(.s 10, .p 0), (.s 3, .r 10)] [(.exit 0, [(.s 3, .r 10)]), (.ret, [(.s 2, .c (.cj false))])] (.two .o (.two .o (.two (.two .o (.two .o (.pc [(.normal, [(.s 28, .p 1)])] .o .o))) .o))))) (.pc [(.normal, [(.s 2, .p 1)])] .o .o)))) (by kernel_rfl) fun c a => by kernel_rfl
def t179 : List (bR bh) := ⟨179, [], [.v 0], [1], fun c a => Hu a.1⟩ :: t93
theorem aE0 : b6 (ck g) t179 := cA cy aEZ [] .o (by kernel_rfl) fun c a => by kernel_rfl
def t86 : List (bR bh) := ⟨86, [], [.v 0, .v 0], [0], fun c a => Hv a.1 a.2.1⟩ :: t179
theorem aE1 : b6 (ck g) t86 := cA cy aE0 [] .o (by kernel_rfl) fun c a => by kernel_rfl
def t194 : List (bR bh) := ⟨194, [], [.v 6, .v 6], [0], fun c a => Di a.1 a.2.1⟩ :: t86
theorem aE2 : b6 (ck g) t194 := cA cy aE1 [] (.two .o (.two (.two .o (.dj [(.s 11, .p 0)] [(.exit 0, []), (.ret, [(.s 4, .p 0)])] .o)) .o)) (by kernel_rfl) fun c a => by kernel_rfl
def t311 : List (bR bh) := ⟨311, [], [.v 20, .f [13] 1], [0], fun c a => Vx a.1 a.2.1⟩ :: t194
theorem aE3 : b6 (ck g) t311 := cA cy aE2 [] (.two .o (.two (.two .o (.dj [(.s 8, .p 0)] [(.exit 0, []), (.ret, [(.s 4, .p 0)])] .o)) .o)) (by kernel_rfl) fun c a => by kernel_rfl
def t203 : List (bR bh) := ⟨203, [], [.v 20, .f [13] 1], [1], fun c a => MU a.1 a.2.1⟩ :: t311
theorem aE4 : b6 (ck g) t203 := cA cy aE3 [] .o (by kernel_rfl) fun c a => by kernel_rfl
def t308 : List (bR bh) := ⟨308, [], [.v 6, .v 9, .v 1, .v 0], [0, 6, 1], fun c a => Hy a.1 a.2.1 a.2.2.1 a.2.2.2.1⟩ :: t203
theorem aE5 : b6 (ck g) t308 := cA cy aE4 [(55, 0)] (.two .o (.two (.pc [(.normal, [(.s 24, .p 1)])] .o .o) (.two (.two .o (.dj [(.s 27, .p 0)] [(.exit 0, []), (.ret, [(.s 8, .p 0), (.s 9, .r 6), (.s 10, .c (.cj true))])] (.two .o (.two .o (.two (.two .o (.two .o (.two (.pc [(.normal, [(.s 51, .p 1)])] .o .o) (.two .o (.two (.two .o (.dj [(.s 13, .p 0), (.s 15, .p 0), (.s 14, .r 6), (.m 1 0, .d)] [(.exit 2, [(.s 14, .r 6), (.m 1 0, .d)])] .o)) .o))))) .o))))) .o))) (by kernel_rfl) fun c a => by kernel_rfl
def t304 : List (bR bh) := ⟨304, [], [.v 29, .v 21], [1], fun c a => Hz a.1 a.2.1⟩ :: t308
theorem aE6 : b6 (ck g) t304 := cA cy aE5 [] (.two .o (.two .o (.two .o (.two .o (.two .o (.pc [(.normal, [(.s 51, .p 1)])] .o (.two (.pu [4] .o) (.pu [4] .o)))))))) (by kernel_rfl) fun c a => by kernel_rfl
def t305 : List (bR bh) := ⟨305, [29], [.v 13], [1], fun c a => HA c a.1⟩ :: t304
theorem aE7 : b6 (ck g) t305 := cA cy aE6 [] .o (by kernel_rfl) fun c a => by kernel_rfl
def t195 : List (bR bh) := ⟨195, [], [.v 29, .v 23], [1], fun c a => HB a.1 a.2.1⟩ :: t305
theorem aE8 : b6 (ck g) t195 := cA cy aE7 [] (.two .o (.two .o (.two (.two .o (.dj [(.s 5, .p 0), (.s 13, .p 0)] [(.exit 0, []), (.ret, [(.s 4, .c (.cj false))])] (.two .o (.two .o (.two (.two .o (.two (.pc [(.normal, [(.s 39, .p 1)])] .o .o) .o)) .o))))) (.two .o (.two (.two .o (.dj [(.s 5, .p 0), (.s 46, .p 0)] [(.exit 2, []), (.ret, [(.s 4, .c (.cj false))])] (.two .o (.two .o (.two (.two .o (.two (.pc [(.normal, [(.s 59, .p 1)])] .o .o) .o)) .o))))) (.pc [(.normal, [(.s 4, .p 1)])] .o .o)))))) (by kernel_rfl) fun c a => by kernel_rfl
def t94 : List (bR bh) := ⟨94, [], [.v 29], [1], fun c a => HD a.1⟩ :: t195
theorem aE9 : b6 (ck g) t94 := cA cy aE8 [] (.two .o (.two .o (.two (.two .o (.dj [(.s 18, .p 0)] [(.exit 0, []), (.ret, [(.s 2, .c (.cj false))])] (.two .o (.two .o (.two (.two .o (.two (.pc [(.normal, [(.s 45, .p 1)])] .o .o) (.two (.two .o (.dj [(.s 55, .p 0)] [(.exit 2, []), (.ret, [(.s 2, .c (.cj false))])] (.two .o (.two .o (.two (.two .o (.two .o (.pc [(.normal, [(.s 86, .p 1)])] .o .o))) .o))))) (.pc [(.normal, []), (.ret, [(.s 2, .c (.cj false))])] (.two .o (.two (.two .o (.pc [(.normal, [(.s 116, .p 1)])] .o .o)) .o)) .o)))) .o))))) .o))) (by kernel_rfl) fun c a => by kernel_rfl
def t95 : List (bR bh) := ⟨95, [], [.v 29], [1], fun c a => Vq a.1⟩ :: t94
theorem aFa : b6 (ck g) t95 := aE9.cons (Ez rfl fun H ⟨j, _⟩ r h => by
 cases h
 exact Mi (spec := Bt) (by kernel_rfl) (by simp [IW, ct, bO, VE]) (aop j) H)
def t38 : List (bR bh) := ⟨38, [], [.v 26], [1], fun c a => Dt a.1⟩ :: t95
theorem aFb : b6 (ck g) t38 := cA cy aFa [] (.two .o (.two (.pc [(.normal, [(.s 21, .p 1)])] .o .o) (.two .lt (.pc [(.normal, [(.s 2, .p 1)])] .o .o)))) (by kernel_rfl) fun c a => by kernel_rfl
def t44 : List (bR bh) := ⟨44, [], [.v 6, .v 9, .v 1], [0], fun c a => Nj a.1 a.2.1 a.2.2.1⟩ :: t38
theorem aFc : b6 (ck g) t44 := cA cy aFb [] .o (by kernel_rfl) fun c a => by kernel_rfl
def t19 : List (bR bh) := ⟨19, [], [.v 26, .v 6], [1], fun c a => OE a.1 a.2.1⟩ :: t44
theorem av2 : b6 (ck g) t19 := cA cy aFc [] (.two .o (.pc [(.normal, [(.s 4, .p 1)])] .o .o)) (by kernel_rfl) fun c a => by kernel_rfl
def t45 : List (bR bh) := ⟨45, [], [.v 15, .f [14] 1], [0], fun c a => ayO a.1 a.2.1⟩ :: t19
theorem aFd : b6 (ck g) t45 := cA cy av2 [] (.two .o (.two (.two .o (.dj [(.s 8, .p 0)] [(.exit 0, []), (.ret, [(.s 4, .p 0)])] .o)) .o)) (by kernel_rfl) fun c a => by kernel_rfl
def t20 : List (bR bh) := ⟨20, [], [.v 15, .f [14] 1], [1], fun c a => OG a.1 a.2.1⟩ :: t45
theorem aFe : b6 (ck g) t20 := cA cy aFd [] .o (by kernel_rfl) fun c a => by kernel_rfl
def t46 : List (bR bh) := ⟨46, [], [.v 14, .v 0], [1], fun c a => DS a.1 a.2.1⟩ :: t20
theorem apE : b6 (ck g) t46 := cA cy aFe [] (.two .o (.pu [4] .o)) (by kernel_rfl) fun c a => by kernel_rfl
def t103 : List (bR bh) := ⟨103, [6, 14], [.v 0, .v 0], [1], fun c a => DT c.1 c.2 a.1 a.2.1⟩ :: t46
theorem aFf : b6 (ck g) t103 := cA cy apE [] .o (by kernel_rfl) fun c a => by kernel_rfl
def t205 : List (bR bh) := ⟨205, [], [.v 6, .v 0], [0], fun c a => ayP a.1 a.2.1⟩ :: t103
theorem aFg : b6 (ck g) t205 := cA cy aFf [] (.two .o (.two (.two .o (.dj [(.s 8, .p 0)] [(.exit 0, []), (.ret, [(.s 4, .p 0)])] .o)) .o)) (by kernel_rfl) fun c a => by kernel_rfl
def t104 : List (bR bh) := ⟨104, [], [.v 6, .v 0], [1], fun c a => HX a.1 a.2.1⟩ :: t205
theorem aFh : b6 (ck g) t104 := cA cy aFg [] .o (by kernel_rfl) fun c a => by kernel_rfl
def t47 : List (bR bh) := ⟨47, [], [.v 14, .v 6], [6], fun c a => HZ a.1 a.2.1⟩ :: t104
theorem aFi : b6 (ck g) t47 := avG cy aFh [(26, 0), (27, 6), (76, 0), (78, 6)] [(25, 0, 8)] avV (.two .o (.two .o (.two .o (.two .o (.two (.two .o (.dj [(.s 21, .p 0), (.s 6, .r 30)] [(.exit 0, [(.s 6, .r 30)])] .o)) (.two (.dj [(.s 6, .r 30), (.m 2 0, .d)] [(.exit 2, []), (.ret, [(.s 4, .p 6)])] (.two .o (.two .o (.two (.two .o (.dj [(.s 35, .p 0), (.s 8, .r 30)] [(.exit 4, [(.s 8, .r 30)]), (.ret, [(.s 4, .p 6)])] (.two .o (.two .o (.two (.two .o (.two .o (.two .o (.two .o (.dj [(.s 12, .p 0), (.s 8, .r 30), (.m 4 0, .d)] [(.exit 6, [(.s 8, .r 30), (.m 4 0, .d)])] (.two .o (.two (.pc [(.normal, [(.s 71, .p 1)])] .o .o) .o))))))) .o))))) .o)))) .o)))))) (by kernel_rfl) fun c a => by kernel_rfl
def t48 : List (bR bh) := ⟨48, [], [.v 0, .v 0, .v 0], [1], fun c a => ayQ a.1 a.2.1 a.2.2.1⟩ :: t47
theorem aFj : b6 (ck g) t48 := cA cy aFi [] (.two .o (.two .o (.pu [6] .o))) (by kernel_rfl) fun c a => by kernel_rfl
def t22 : List (bR bh) := ⟨22, [], [.v 14, .v 6], [1], fun c a => AF a.1 a.2.1⟩ :: t48
theorem aFk : b6 (ck g) t22 := cA cy aFj [] (.two .o (.two (.two .o (.two (.pc [(.normal, [(.s 4, .p 1)])] .o .o) .o)) (.two .o (.two (.two .o (.dj [(.s 5, .p 0), (.s 6, .p 0), (.s 27, .p 0)] [(.exit 0, [(.s 5, .p 0), (.s 6, .p 0)]), (.ret, [(.s 4, .c (.cj false))])] (.two .o (.two .o (.two (.two .o (.two (.pu [40] .o) .o)) .o))))) (.pc [(.normal, [(.s 4, .p 1)])] .o .o))))) (by kernel_rfl) fun c a => by kernel_rfl
def t21 : List (bR bh) := ⟨21, [6], [.v 14], [1], fun c a => H4 c a.1⟩ :: t22
theorem aFl : b6 (ck g) t21 := cA cy aFk [] .o (by kernel_rfl) fun c a => by kernel_rfl
def t7 : List (bR bh) := ⟨7, [], [.v 26, .v 6], [1], fun c a => DA a.1 a.2.1⟩ :: t21
theorem nM : b6 (ck g) t7 := cA cy aFl [] (.two .o (.pc [(.normal, [(.s 4, .p 1)])] .o .o)) (by kernel_rfl) fun c a => by kernel_rfl
def t24 : List (bR bh) := ⟨24, [26], [.v 0], [1], fun c a => O7 c a.1⟩ :: t7
theorem apj : b6 (ck g) t24 := cA cy nM [] (.two .o (.pu [3] .o)) (by kernel_rfl) fun c a => by kernel_rfl
def t51 : List (bR bh) := ⟨51, [], [.v 6, .v 19], [6], fun c a => EN a.1 a.2.1⟩ :: t24
theorem aFm : b6 (ck g) t51 := avG cy apj [] [(25, 0, 8)] avV (.two .o (.two .o (.two (.two .o (.dj [(.s 12, .p 0), (.s 5, .r 6), (.m 0 0, .d)] [(.exit 0, [(.s 5, .r 6), (.m 0 0, .d)])] (.two .o (.two .o (.two (.two .o (.pu [25] .o)) .o))))) .o))) (by kernel_rfl) fun c a => by kernel_rfl
def t50 : List (bR bh) := ⟨50, [], [.v 26, .v 23, .v 6], [31], fun c a => Jd a.1 a.2.1 a.2.2.1⟩ :: t51
theorem aFn : b6 (ck g) t50 := cA cy aFm [] (.two .o (.two (.two .o (.dj [(.s 15, .p 0)] [(.exit 0, []), (.ret, [(.m 2 1, .p 0), (.m 2 0, .c (.int .i64 1))])] .o)) (.two .o (.two (.two .o (.dj [(.s 35, .p 0)] [(.exit 2, []), (.ret, [(.m 2 1, .p 0), (.m 2 0, .c (.int .i64 2))])] .o)) .o)))) (by kernel_rfl) fun c a => by kernel_rfl
def t26 : List (bR bh) := ⟨26, [], [.v 26, .v 0, .v 6], [6, 31], fun c a => Fl a.1 a.2.1 a.2.2.1⟩ :: t50
theorem apB : b6 (ck g) t26 := avG cy aFn [] [(25, 0, 8)] avV (.two .o (.two .o (.two .o (.two (.two .o (.two (.two (.md 1 2) .o) .o)) .o)))) (by kernel_rfl) fun c a => by kernel_rfl
def t8 : List (bR bh) := ⟨8, [], [.v 26, .v 6, .v 6], [6, 32, 0], fun c a => HE a.1 a.2.1 a.2.2.1⟩ :: t26
theorem LD : b6 (ck g) t8 := avG cy apB [(34, 0), (40, 31)] [(25, 0, 8)] avV (.two .o (.two .o (.two .o (.two .o (.two .o (.two (.two .o (.pl .o (.dj [(.s 9, .p 6), (.s 26, .p 0), (.s 10, .r 32), (.m 3 0, .d)] [(.exit 0, [(.s 9, .p 6), (.s 10, .r 32), (.m 3 0, .d)])] .o))) .o)))))) (by kernel_rfl) fun c a => by kernel_rfl
def t9 : List (bR bh) := ⟨9, [], [.v 6, .v 6], [1], fun c a => Jh a.1 a.2.1⟩ :: t8
theorem avW : b6 (ck g) t9 := cA cy LD [] (.two .o (.two .o (.two (.two .o (.dj [(.s 13, .p 0)] [(.exit 0, []), (.ret, [(.s 4, .c (.cj false))])] .o)) .o))) (by kernel_rfl) fun c a => by kernel_rfl
def t3 : List (bR bh) := ⟨3, [], [.v 26, .v 3, .v 3, .v 6], [1], fun c a => Jj a.1 a.2.1 a.2.2.1 a.2.2.2.1⟩ :: t9
theorem bZ : b6 (ck g) t3 := cA cy avW [(57, 0), (67, 0)] (.two .o (.two .o (.two (.pc [(.normal, [(.s 39, .p 1)])] .o .o) (.two .o (.two .o (.two .o (.two (.pu [87] .o) (.two (.two .o (.dj [(.s 88, .p 0)] [(.exit 0, []), (.ret, [(.s 8, .c (.cj true))])] (.two .o (.two .o (.two (.two .o (.pc [(.normal, [(.s 104, .p 1)])] .o .o)) .o))))) .o)))))))) (by kernel_rfl) fun c a => by kernel_rfl
theorem aFo : ck g 3 = some (.code (yO (ck g) 3)) := (yP (J := bh) (e := ⟨3, [], [.v 26, .v 3, .v 3, .v 6], [1], fun c a => Jj a.1 a.2.1 a.2.2.1 a.2.2.2.1⟩) (by kernel_rfl)).1
theorem aFp (m : Model) (a c : Int) (st : ak Int) (ao : 0 <= a /\ a <= 255) (hc : 0 <= c /\ c <= 255) (cp : bl st.l) : cK (ck g) (.fn 3 [] []) [uF m, .int .u8 a, .int .u8 c, bP 1 aI st] [] = some (.bool true, [], 0) := bZ.hd [] [] () (m, a, c, st, ()) [] _ true rfl (.nil []) ⟨_, rfl, _, rfl, _, rfl, _, rfl, rfl⟩ (aEq m a c st ao hc cp)
end
end Go.Abs.U
