/- Texts of this claim, joined and written short by a program. -/
import Derived.Test.YtoimeckpnnkbpaaGreatDoorP34
import Derived.Test.YtoimeckpnnkbpaaGreatDoorP33
import Derived.Test.YtoimeckpnnkbpaaGreatDoorP36
import Derived.Test.YtoimeckpnnkbpaaGreatDoorP00
set_option linter.unusedVariables false
set_option linter.unusedSimpArgs false
set_option linter.unusedSectionVars false
set_option maxRecDepth 100000
namespace Go.Abs.hk
open Go Go.Abs Go.Abs.gK Go.Abs.Lex
noncomputable section
variable{g:Nat->Option Obj}
theorem axc:∀q∈([(16,0,8)]:List (Nat × Nat × Nat)),WZ bn (cT g) q.1 q.2:=fun q h=>by
 simp only[dA,sP,or_false]at h;rcases h with rfl;exact⟨8,[aD 0],by kernel_rfl,by decide⟩
def t0:List (cn bn):=[]
theorem gU:cG (cT g) t0:=fun _ h=>by cases h
def t5:List (cn bn):=⟨5,[],[],[1],fun c a=>auN⟩::t0
theorem et:cG (cT g) t5:=gU.cons (tI rfl fun H a r h=>by
 cases h;exact Dy (spec:=Dd [] (.bool true)) (by kernel_rfl) rfl (by kernel_rfl) H)
def t230:List (cn bn):=⟨230,[],[.v 3],[1],fun c a=>yT a.1⟩::t5
theorem avG:cG (cT g) t230:=dh di et [] (.two .o (.pu [2] .o)) (by kernel_rfl) fun c a=>by kernel_rfl
def t233:List (cn bn):=⟨233,[],[.v 3],[1],fun c a=>yU a.1⟩::t230
theorem avH:cG (cT g) t233:=dh di avG [] (.two .o (.pu [2] .o)) (by kernel_rfl) fun c a=>by kernel_rfl
def t232:List (cn bn):=⟨232,[],[.v 3],[1],fun c a=>DT a.1⟩::t233
theorem avI:cG (cT g) t232:=dh di avH [] (.two .o (.pc [(.normal,[(.s 2,.p 1)])] .o .o)) (by kernel_rfl) fun c a=>by kernel_rfl
def t235:List (cn bn):=⟨235,[],[.v 3],[1],fun c a=>A9 a.1⟩::t232
theorem avJ:cG (cT g) t235:=dh di avI [] (.two .o (.pu [2] .o)) (by kernel_rfl) fun c a=>by kernel_rfl
def t428:List (cn bn):=⟨428,[],[.v 2,.v 2],[1],fun c a=>Ni a.1 a.2.1⟩::t235
theorem ax3:cG (cT g) t428:=dh di avJ [] (.two .o (.pc [(.normal,[(.s 4,.p 1)])] .o .o)) (by kernel_rfl) fun c a=>by kernel_rfl
def t359:List (cn bn):=⟨359,[],[.v 2,.v 2],[1],fun c a=>HL a.1 a.2.1⟩::t428
theorem ax4:cG (cT g) t359:=dh di ax3 [] .o (by kernel_rfl) fun c a=>by kernel_rfl
def t360:List (cn bn):=⟨360,[],[.v 2,.v 3],[0],fun c a=>strings_IndexByte a.1 a.2.1⟩::t359
theorem ax5:cG (cT g) t360:=ax4.cons (tI rfl fun H ⟨s,c,_⟩ r h=>by
 cases h;exact Dy (spec:=F8) (by kernel_rfl) rfl rfl H)
def t234:List (cn bn):=⟨234,[],[.v 2],[0],fun c a=>A7 a.1⟩::t360
theorem avK:cG (cT g) t234:=dh di ax5 [(5,2)] (.two .o (.two (.two .o (.fe [(.s 7,.p 0)] [(.exit 0,[]),(.ret,[(.s 2,.c (.int .i64 2))])] .o)) (.two (.pc [(.normal,[(.s 22,.p 1)])] .o .o) .o))) (by kernel_rfl) fun c a=>by kernel_rfl
def t236:List (cn bn):=⟨236,[],[.v 2],[1],fun c a=>DP a.1⟩::t234
theorem aOe:cG (cT g) t236:=dh di avK [] (.two .o (.pc [(.normal,[(.s 2,.p 1)])] .o .o)) (by kernel_rfl) fun c a=>by kernel_rfl
def t231:List (cn bn):=⟨231,[],[.v 2,.f [3] 1],[0],fun c a=>A8 a.1 a.2.1⟩::t236
theorem avL:cG (cT g) t231:=dh di aOe [] (.two .o (.two .o (.two (.fe [(.s 5,.p 0)] [(.exit 0,[(.s 5,.p 0)])] (.two (.pc [(.normal,[(.s 16,.p 1)])] .o .o) .o)) .o))) (by kernel_rfl) fun c a=>by kernel_rfl
def t358:List (cn bn):=⟨358,[],[.v 3],[1],fun c a=>Ba a.1⟩::t231
theorem aMo:cG (cT g) t358:=dh di avL [] .o (by kernel_rfl) fun c a=>by kernel_rfl
def t229:List (cn bn):=⟨229,[],[.v 2],[0],fun c a=>DS a.1⟩::t358
theorem avN:cG (cT g) t229:=dh di aMo [] (.two .o (.two .o (.two (.fe [(.s 3,.p 0)] [(.exit 0,[(.s 3,.p 0)]),(.ret,[(.s 2,.p 0)])] .o) .o))) (by kernel_rfl) fun c a=>by kernel_rfl
def t117:List (cn bn):=⟨117,[],[.v 2],[0],fun c a=>pU a.1⟩::t229
theorem aN4:cG (cT g) t117:=avN.cons (tI rfl fun H ⟨w,_⟩ r h=>by
 cases h;exact an5 ⟨X5 avG.hd,X6 avH.hd,X7 avI.hd,X8 avJ.hd,X9 aOe.hd,Ya avK.hd,Yb avL.hd,Yc avN.hd,Yd aMo.hd,by kernel_rfl,by kernel_rfl,by kernel_rfl,by kernel_rfl,⟨Co,by kernel_rfl,by kernel_rfl⟩⟩ w H)
def t26:List (cn bn):=⟨26,[],[.v 6,.v 9],[1],fun c a=>HN a.1 a.2.1⟩::t117
theorem aOl:cG (cT g) t26:=dh di aN4 [] (.two .o (.two (.two .o (.fe [(.s 5,.p 0)] [(.exit 0,[]),(.ret,[(.s 4,.c (.b0 false))])] (.two .o (.two (.pc [(.normal,[(.s 27,.p 1)])] .o .o) .o)))) (.pu [4] .o))) (by kernel_rfl) fun c a=>by kernel_rfl
def t6:List (cn bn):=⟨6,[],[.v 26],[1],fun c a=>HU a.1⟩::t26
theorem gz:cG (cT g) t6:=dh di aOl [] (.two .o (.two (.pc [(.normal,[(.s 56,.p 1)])] .o .o) (.two (.two .o (.fe [(.s 3,.p 0)] [(.exit 0,[]),(.ret,[(.s 2,.c (.b0 false))])] .o)) (.two (.two .o (.fe [(.s 4,.p 0)] [(.exit 2,[]),(.ret,[(.s 2,.c (.b0 false))])] .o)) (.two (.two .o (.fe [(.s 5,.p 0)] [(.exit 4,[]),(.ret,[(.s 2,.c (.b0 false))])] (.two .o (.two (.pc [(.normal,[(.s 111,.p 1)])] .o .o) .o)))) (.two (.two .o (.fe [(.s 6,.p 0)] [(.exit 6,[]),(.ret,[(.s 2,.c (.b0 false))])] (.two .o (.two (.two .o (.two (.pc [(.normal,[(.s 150,.p 1)])] .o .o) (.two .o (.fe [(.s 8,.p 0)] [(.exit 8,[]),(.ret,[(.s 2,.c (.b0 false))])] .o)))) .o)))) .o)))))) (by kernel_rfl) fun c a=>by kernel_rfl
def t7:List (cn bn):=⟨7,[],[.v 6],[1],fun c a=>auO a.1⟩::t6
theorem jI:cG (cT g) t7:=dh di gz [] (.two .o (.two (.two .o (.fe [(.s 3,.p 0)] [(.exit 0,[]),(.ret,[(.s 2,.c (.b0 false))])] (.two .o (.two (.pc [(.normal,[(.s 21,.p 1)])] .o .o) .o)))) .o)) (by kernel_rfl) fun c a=>by kernel_rfl
def t8:List (cn bn):=⟨8,[],[.v 6,.v 6],[1],fun c a=>Qi a.1 a.2.1⟩::t7
theorem L6:cG (cT g) t8:=dh di jI [] (.two .o (.two .o (.two (.two .o (.fe [(.s 5,.p 0)] [(.exit 0,[]),(.ret,[(.s 4,.c (.b0 false))])] .o)) .o))) (by kernel_rfl) fun c a=>by kernel_rfl
def t120:List (cn bn):=⟨120,[],[.v 8],[1],fun c a=>Bd a.1⟩::t8
theorem aN6:cG (cT g) t120:=dh di L6 [] (.two .o (.pu [2] .o)) (by kernel_rfl) fun c a=>by kernel_rfl
def t121:List (cn bn):=⟨121,[],[.v 6,.v 6],[0],fun c a=>tu a.1 a.2.1⟩::t120
theorem aN7:cG (cT g) t121:=dh di aN6 [] (.two .o (.two .o (.two (.two .o (.fe [(.s 5,.p 0),(.s 10,.p 0)] [(.exit 0,[(.s 5,.p 0)])] .o)) .o))) (by kernel_rfl) fun c a=>by kernel_rfl
def t350:List (cn bn):=⟨350,[],[.v 6,.f [0] 1],[0],fun c a=>Wu a.1 a.2.1⟩::t121
theorem aHk:cG (cT g) t350:=dh di aN7 [] (.two .o (.two (.two .o (.fe [(.s 8,.p 0)] [(.exit 0,[]),(.ret,[(.s 4,.p 0)])] .o)) .o)) (by kernel_rfl) fun c a=>by kernel_rfl
def t218:List (cn bn):=⟨218,[],[.v 6,.f [0] 1],[1],fun c a=>DW a.1 a.2.1⟩::t350
theorem aHl:cG (cT g) t218:=dh di aHk [] .o (by kernel_rfl) fun c a=>by kernel_rfl
def t304:List (cn bn):=⟨304,[6],[.v 0],[1],fun c a=>Nq c a.1⟩::t218
theorem aHm:cG (cT g) t304:=dh di aHl [] (.two .o (.pu [3] .o)) (by kernel_rfl) fun c a=>by kernel_rfl
def t180:List (cn bn):=⟨180,[],[.v 6,.v 6],[1],fun c a=>HX a.1 a.2.1⟩::t304
theorem aHn:cG (cT g) t180:=dh di aHm [] (.two .o (.pc [(.normal,[(.s 4,.p 1)])] .o .o)) (by kernel_rfl) fun c a=>by kernel_rfl
def t211:List (cn bn):=⟨211,[],[.v 0,.v 0,.v 0],[1],fun c a=>HV a.1 a.2.1 a.2.2.1⟩::t180
theorem aHo:cG (cT g) t211:=dh di aHn [] (.two .o (.pu [6] .o)) (by kernel_rfl) fun c a=>by kernel_rfl
def t305:List (cn bn):=⟨305,[],[.v 0],[1],fun c a=>Np a.1⟩::t211
theorem aHp:cG (cT g) t305:=dh di aHo [] .o (by kernel_rfl) fun c a=>by kernel_rfl
def t181:List (cn bn):=⟨181,[],[.v 6],[1],fun c a=>HW a.1⟩::t305
theorem aHq:cG (cT g) t181:=dh di aHp [] .o (by kernel_rfl) fun c a=>by kernel_rfl
def t417:List (cn bn):=⟨417,[],[.v 27,.v 1],[0],fun c a=>Wt a.1 a.2.1⟩::t181
theorem aHr:cG (cT g) t417:=dh di aHq [] (.two .o (.two (.two .o (.fe [(.s 8,.p 0)] [(.exit 0,[]),(.ret,[(.s 4,.p 0)])] .o)) .o)) (by kernel_rfl) fun c a=>by kernel_rfl
def t345:List (cn bn):=⟨345,[],[.v 27,.v 1],[1],fun c a=>Nn a.1 a.2.1⟩::t417
theorem aHs:cG (cT g) t345:=dh di aHr [] .o (by kernel_rfl) fun c a=>by kernel_rfl
def t209:List (cn bn):=⟨209,[],[.v 27],[1],fun c a=>Bc a.1⟩::t345
theorem aHt:cG (cT g) t209:=dh di aHs [] .o (by kernel_rfl) fun c a=>by kernel_rfl
def t210:List (cn bn):=⟨210,[],[.v 2],[1],fun c a=>yX a.1⟩::t209
theorem aHv:cG (cT g) t210:=dh di aHt [] (.two .o (.pc [(.normal,[(.s 2,.p 1)])] .o .o)) (by kernel_rfl) fun c a=>by kernel_rfl
def t212:List (cn bn):=⟨212,[],[.v 8],[1],fun c a=>HY a.1⟩::t210
theorem aHw:cG (cT g) t212:=dh di aHv [] (.two .o (.pc [(.normal,[]),(.ret,[(.s 2,.p 1)])] (.two .o (.pc [(.normal,[(.s 5,.p 1)])] .o (.two (.pu [2] .o) .o))) .o)) (by kernel_rfl) fun c a=>by kernel_rfl
def t107:List (cn bn):=⟨107,[],[.v 6,.v 9],[1],fun c a=>Bg a.1 a.2.1⟩::t212
theorem aHx:cG (cT g) t107:=dh di aHw [(19,1),(22,100),(46,1)] (.two .o (.two .o (.two .o (.two .o (.two (.two .o (.fe [(.s 25,.p 0),(.m 2 0,.p 0),(.m 1 0,.p 0),(.s 5,.r 100),(.m 0 0,.d)] [(.exit 0,[(.m 2 0,.p 0),(.m 1 0,.p 0)]),(.ret,[(.s 4,.c (.b0 false))])] .o)) (.pu [4] .o)))))) (by kernel_rfl) fun c a=>by kernel_rfl
def t108:List (cn bn):=⟨108,[],[.v 10],[1],fun c a=>DY a.1⟩::t107
theorem aHz:cG (cT g) t108:=dh di aHx [(6,100)] (.two .o (.two .o (.two (.two .o (.fe [(.s 9,.p 0),(.s 3,.r 100),(.m 0 0,.d)] [(.exit 0,[]),(.ret,[(.s 2,.c (.b0 false))])] (.two .o (.two .o (.two (.two .o (.two (.pc [(.normal,[(.s 20,.p 1)])] .o .o) .o)) .o))))) .o))) (by kernel_rfl) fun c a=>by kernel_rfl
def t213:List (cn bn):=⟨213,[],[.v 28,.v 0],[28],fun c a=>DJ a.1 a.2.1⟩::t108
theorem aHA:cG (cT g) t213:=aHz.cons (tI rfl fun H ⟨x,n,_⟩ r h=>aou ⟨by kernel_rfl,by kernel_rfl,by kernel_rfl⟩ H x n r h)
def t109:List (cn bn):=⟨109,[],[.v 6,.v 9,.v 1],[28],fun c a=>D0 a.1 a.2.1 a.2.2.1⟩::t213
theorem aHB:cG (cT g) t109:=dh di aHA [(27,7)] (.two .o (.two .o (.two .o (.two (.two .o (.fe [(.s 16,.p 0),(.s 7,.r 28)] [(.exit 0,[(.s 7,.r 28)])] .o)) .o)))) (by kernel_rfl) fun c a=>by kernel_rfl
def t214:List (cn bn):=⟨214,[],[.v 0,.v 0],[1],fun c a=>kg a.1 a.2.1⟩::t109
theorem aHC:cG (cT g) t214:=dh di aHB [] (.two .o (.pu [4] .o)) (by kernel_rfl) fun c a=>by kernel_rfl
def t220:List (cn bn):=⟨220,[],[.v 0,.v 0],[1],fun c a=>y1 a.1 a.2.1⟩::t214
theorem aHD:cG (cT g) t220:=dh di aHC [] (.two .o (.pu [4] .o)) (by kernel_rfl) fun c a=>by kernel_rfl
def t215:List (cn bn):=⟨215,[],[.v 29,.v 13],[1],fun c a=>D2 a.1 a.2.1⟩::t220
theorem aHE:cG (cT g) t215:=dh di aHD [] (.two .o (.two .o (.two (.two .o (.fe [(.s 5,.p 0),(.s 11,.p 0)] [(.exit 0,[]),(.ret,[(.s 4,.c (.b0 false))])] (.two .o (.two .o (.two (.two .o (.two (.pc [(.normal,[(.s 37,.p 1)])] .o .o) .o)) .o))))) .o))) (by kernel_rfl) fun c a=>by kernel_rfl
def t55:List (cn bn):=⟨55,[],[.v 9,.f [8] 1],[0],fun c a=>Wv a.1 a.2.1⟩::t215
theorem aOc:cG (cT g) t55:=dh di aHE [] (.two .o (.two (.two .o (.fe [(.s 8,.p 0)] [(.exit 0,[]),(.ret,[(.s 4,.p 0)])] .o)) .o)) (by kernel_rfl) fun c a=>by kernel_rfl
def t347:List (cn bn):=⟨347,[],[.v 9,.f [8] 1],[1],fun c a=>Nu a.1 a.2.1⟩::t55
theorem aHF:cG (cT g) t347:=dh di aOc [] .o (by kernel_rfl) fun c a=>by kernel_rfl
def t348:List (cn bn):=⟨348,[14,29],[.v 8],[1],fun c a=>H5 c.1 c.2 a.1⟩::t347
theorem aHG:cG (cT g) t348:=dh di aHF [] (.two .o (.pc [(.normal,[(.s 4,.p 1)])] .o .o)) (by kernel_rfl) fun c a=>by kernel_rfl
def t216:List (cn bn):=⟨216,[],[.v 29,.v 14],[1],fun c a=>H6 a.1 a.2.1⟩::t348
theorem aHI:cG (cT g) t216:=dh di aHG [] (.two .o (.pc [(.normal,[(.s 4,.p 1)])] .o .o)) (by kernel_rfl) fun c a=>by kernel_rfl
def t349:List (cn bn):=⟨349,[],[.v 12,.v 12],[1],fun c a=>Bi a.1 a.2.1⟩::t216
theorem aHJ:cG (cT g) t349:=dh di aHI [] (.two .o (.two .o (.two (.two .o (.fe [(.s 13,.p 0)] [(.exit 0,[]),(.ret,[(.s 4,.c (.b0 false))])] .o)) .o))) (by kernel_rfl) fun c a=>by kernel_rfl
def t217:List (cn bn):=⟨217,[],[.v 13,.v 0,.v 0,.v 0],[1],fun c a=>H8 a.1 a.2.1 a.2.2.1 a.2.2.2.1⟩::t349
theorem aHK:cG (cT g) t217:=dh di aHJ [(14,11)] (.two .o (.pc [(.normal,[(.s 8,.p 1)])] .o .o)) (by kernel_rfl) fun c a=>by kernel_rfl
def t110:List (cn bn):=⟨110,[],[.v 29],[1],fun c a=>H9 a.1⟩::t217
theorem aHL:cG (cT g) t110:=dh di aHK [] (.two .o (.two (.pu [23] .o) (.two (.two .o (.fe [(.s 28,.p 0)] [(.exit 0,[]),(.ret,[(.s 2,.c (.b0 false))])] (.two .o (.two .o (.two (.two .o (.pc [(.normal,[]),(.ret,[(.s 2,.c (.b0 false))])] (.two .o (.two .o (.two .o (.two (.pc [(.normal,[(.s 60,.p 1)])] .o .o) (.pc [(.normal,[(.s 61,.p 1)])] .o .o))))) (.two .o (.two (.two .o (.pc [(.normal,[(.s 6,.p 0),(.s 7,.p 0)])] .o (.pc [(.normal,[(.s 103,.p 1)])] .o .o))) .o)))) .o))))) .o))) (by kernel_rfl) fun c a=>by kernel_rfl
def t219:List (cn bn):=⟨219,[29],[.v 0],[1],fun c a=>Ia c a.1⟩::t110
theorem asd:cG (cT g) t219:=dh di aHL [] (.two .o (.pu [3] .o)) (by kernel_rfl) fun c a=>by kernel_rfl
def t111:List (cn bn):=⟨111,[],[.v 29],[1],fun c a=>Ib a.1⟩::t219
theorem aHM:cG (cT g) t111:=dh di asd [(17,2)] (.two .o (.two .o (.two (.two .o (.fe [(.s 10,.p 0),(.s 3,.r 10)] [(.exit 0,[(.s 3,.r 10)]),(.ret,[(.s 2,.c (.b0 false))])] (.two .o (.two .o (.two (.two .o (.two .o (.pc [(.normal,[(.s 28,.p 1)])] .o .o))) .o))))) (.pc [(.normal,[(.s 2,.p 1)])] .o .o)))) (by kernel_rfl) fun c a=>by kernel_rfl
def t205:List (cn bn):=⟨205,[],[.v 0],[1],fun c a=>Ic a.1⟩::t111
theorem aHN:cG (cT g) t205:=dh di aHM [] .o (by kernel_rfl) fun c a=>by kernel_rfl
def t103:List (cn bn):=⟨103,[],[.v 0,.v 0],[0],fun c a=>Ie a.1 a.2.1⟩::t205
theorem aHO:cG (cT g) t103:=dh di aHN [] .o (by kernel_rfl) fun c a=>by kernel_rfl
def t221:List (cn bn):=⟨221,[],[.v 6,.v 6],[0],fun c a=>D7 a.1 a.2.1⟩::t103
theorem aHP:cG (cT g) t221:=dh di aHO [] (.two .o (.two (.two .o (.fe [(.s 11,.p 0)] [(.exit 0,[]),(.ret,[(.s 4,.p 0)])] .o)) .o)) (by kernel_rfl) fun c a=>by kernel_rfl
def t59:List (cn bn):=⟨59,[],[.v 6,.v 9,.v 1,.v 0],[0,6,1],fun c a=>Ea a.1 a.2.1 a.2.2.1 a.2.2.2.1⟩::t221
theorem aHR:cG (cT g) t59:=dh di aHP [(55,0)] (.two .o (.two (.pc [(.normal,[(.s 24,.p 1)])] .o .o) (.two (.two .o (.fe [(.s 27,.p 0)] [(.exit 0,[]),(.ret,[(.s 8,.p 0),(.s 9,.r 6),(.s 10,.c (.b0 true))])] (.two .o (.two .o (.two (.two .o (.two .o (.two (.pc [(.normal,[(.s 51,.p 1)])] .o .o) (.two .o (.two (.two .o (.fe [(.s 13,.p 0),(.s 15,.p 0),(.s 14,.r 6),(.m 1 0,.d)] [(.exit 2,[(.s 14,.r 6),(.m 1 0,.d)])] .o)) .o))))) .o))))) .o))) (by kernel_rfl) fun c a=>by kernel_rfl
def t351:List (cn bn):=⟨351,[],[.v 29,.v 21],[1],fun c a=>Ij a.1 a.2.1⟩::t59
theorem aHS:cG (cT g) t351:=dh di aHR [] (.two .o (.two .o (.two .o (.two .o (.two .o (.pc [(.normal,[(.s 51,.p 1)])] .o (.two (.pu [4] .o) (.pu [4] .o)))))))) (by kernel_rfl) fun c a=>by kernel_rfl
def t420:List (cn bn):=⟨420,[],[.v 20,.f [13] 1],[0],fun c a=>Wy a.1 a.2.1⟩::t351
theorem aHX:cG (cT g) t420:=dh di aHS [] (.two .o (.two (.two .o (.fe [(.s 8,.p 0)] [(.exit 0,[]),(.ret,[(.s 4,.p 0)])] .o)) .o)) (by kernel_rfl) fun c a=>by kernel_rfl
def t352:List (cn bn):=⟨352,[],[.v 20,.f [13] 1],[1],fun c a=>NC a.1 a.2.1⟩::t420
theorem aMb:cG (cT g) t352:=dh di aHX [] .o (by kernel_rfl) fun c a=>by kernel_rfl
def t353:List (cn bn):=⟨353,[29],[.v 13],[1],fun c a=>Ik c a.1⟩::t352
theorem aHY:cG (cT g) t353:=dh di aMb [] .o (by kernel_rfl) fun c a=>by kernel_rfl
def t222:List (cn bn):=⟨222,[],[.v 29,.v 23],[1],fun c a=>Il a.1 a.2.1⟩::t353
theorem aHZ:cG (cT g) t222:=dh di aHY [] (.two .o (.two .o (.two (.two .o (.fe [(.s 5,.p 0),(.s 13,.p 0)] [(.exit 0,[]),(.ret,[(.s 4,.c (.b0 false))])] (.two .o (.two .o (.two (.two .o (.two (.pc [(.normal,[(.s 39,.p 1)])] .o .o) .o)) .o))))) (.two .o (.two (.two .o (.fe [(.s 5,.p 0),(.s 46,.p 0)] [(.exit 2,[]),(.ret,[(.s 4,.c (.b0 false))])] (.two .o (.two .o (.two (.two .o (.two (.pc [(.normal,[(.s 59,.p 1)])] .o .o) .o)) .o))))) (.pc [(.normal,[(.s 4,.p 1)])] .o .o)))))) (by kernel_rfl) fun c a=>by kernel_rfl
def t112:List (cn bn):=⟨112,[],[.v 29],[1],fun c a=>Iq a.1⟩::t222
theorem aH0:cG (cT g) t112:=dh di aHZ [] (.two .o (.two .o (.two (.two .o (.fe [(.s 18,.p 0)] [(.exit 0,[]),(.ret,[(.s 2,.c (.b0 false))])] (.two .o (.two .o (.two (.two .o (.two (.pc [(.normal,[(.s 45,.p 1)])] .o .o) (.two (.two .o (.fe [(.s 55,.p 0)] [(.exit 2,[]),(.ret,[(.s 2,.c (.b0 false))])] (.two .o (.two .o (.two (.two .o (.two .o (.pc [(.normal,[(.s 86,.p 1)])] .o .o))) .o))))) (.pc [(.normal,[]),(.ret,[(.s 2,.c (.b0 false))])] (.two .o (.two (.two .o (.pc [(.normal,[(.s 116,.p 1)])] .o .o)) .o)) .o)))) .o))))) .o))) (by kernel_rfl) fun c a=>by kernel_rfl
def t113:List (cn bn):=⟨113,[],[.v 29],[1],fun c a=>Wq a.1⟩::t112
theorem aH1:cG (cT g) t113:=aH0.cons (tI rfl fun H ⟨j,_⟩ r h=>by
 cases h;exact Dy (spec:=BZ) (by kernel_rfl) (by simp[Jm,bW,bs,WL]) (aoX j) H)
def t52:List (cn bn):=⟨52,[],[.v 26],[1],fun c a=>ou a.1⟩::t113
theorem aN8:cG (cT g) t52:=dh di aH1 [] (.two .o (.two (.pc [(.normal,[(.s 21,.p 1)])] .o .o) (.two .lt (.pc [(.normal,[(.s 2,.p 1)])] .o .o)))) (by kernel_rfl) fun c a=>by kernel_rfl
def t60:List (cn bn):=⟨60,[],[.v 26,.v 1],[28],fun c a=>Iz a.1 a.2.1⟩::t52
theorem aH2:cG (cT g) t60:=dh di aN8 [] .o (by kernel_rfl) fun c a=>by kernel_rfl
def t27:List (cn bn):=⟨27,[],[.v 26],[28],fun c a=>Ql a.1⟩::t60
theorem arC:cG (cT g) t27:=dh di aH2 [] .o (by kernel_rfl) fun c a=>by kernel_rfl
def t9:List (cn bn):=⟨9,[],[.v 26],[6],fun c a=>av2 a.1⟩::t27
theorem arB:cG (cT g) t9:=dh di arC [(20,0)] (.two .o (.two .o (.two (.two .o (.fe [(.s 9,.p 0),(.s 3,.r 6)] [(.exit 0,[(.s 3,.r 6)])] .o)) .o))) (by kernel_rfl) fun c a=>by kernel_rfl
def t237:List (cn bn):=⟨237,[],[.v 6],[1],fun c a=>aws a.1⟩::t9
theorem aMC:cG (cT g) t237:=dh di arB [] (.two .o (.two (.two .o (.fe [(.s 3,.p 0)] [(.exit 0,[]),(.ret,[(.s 2,.c (.b0 false))])] (.two .o (.two (.pc [(.normal,[(.s 21,.p 1)])] .o .o) .o)))) .o)) (by kernel_rfl) fun c a=>by kernel_rfl
def t238:List (cn bn):=⟨238,[],[.v 6,.v 6],[0],fun c a=>avk a.1 a.2.1⟩::t237
theorem aMD:cG (cT g) t238:=dh di aMC [] (.two .o (.two (.pc [(.normal,[(.s 14,.p 1)])] .o .o) (.two .o (.two (.two .o (.fe [(.s 5,.p 0),(.s 6,.p 0)] [(.exit 0,[(.s 5,.p 0)]),(.ret,[(.s 4,.c (.int .i64 0))])] (.two .o (.two (.two (.pc [(.normal,[(.s 34,.p 1)])] .o .o) .o) .o)))) .o)))) (by kernel_rfl) fun c a=>by kernel_rfl
def t509:List (cn bn):=⟨509,[],[.v 3],[1],fun c a=>awv a.1⟩::t238
theorem aH3:cG (cT g) t509:=dh di aMD [] (.two .o (.pu [2] .o)) (by kernel_rfl) fun c a=>by kernel_rfl
def t482:List (cn bn):=⟨482,[],[.v 2,.v 0],[0],fun c a=>awx a.1 a.2.1⟩::t509
theorem aH4:cG (cT g) t482:=dh di aH3 [] (.two .o (.two (.fe [(.s 1,.p 0)] [(.exit 0,[(.s 1,.p 0)])] (.two (.pc [(.normal,[(.s 20,.p 1)])] .o .o) (.two .o (.two (.fe [(.s 1,.p 0)] [(.exit 2,[(.s 1,.p 0)])] (.two (.pc [(.normal,[(.s 34,.p 1)])] .o .o) .o)) .o)))) .o)) (by kernel_rfl) fun c a=>by kernel_rfl
def t241:List (cn bn):=⟨241,[],[.v 10,.v 2],[1],fun c a=>awy a.1 a.2.1⟩::t482
theorem aMT:cG (cT g) t241:=dh di aH4 [] (.two .o (.two (.two .o (.fe [(.s 5,.p 0)] [(.exit 0,[]),(.ret,[(.s 4,.c (.b0 true))])] .o)) .o)) (by kernel_rfl) fun c a=>by kernel_rfl
def t510:List (cn bn):=⟨510,[],[.v 3],[1],fun c a=>avR a.1⟩::t241
theorem aH5:cG (cT g) t510:=dh di aMT [] (.two .o (.pu [2] .o)) (by kernel_rfl) fun c a=>by kernel_rfl
def t511:List (cn bn):=⟨511,[],[.v 3],[1],fun c a=>avv a.1⟩::t510
theorem aH6:cG (cT g) t511:=dh di aH5 [] (.two .o (.pu [2] .o)) (by kernel_rfl) fun c a=>by kernel_rfl
def t512:List (cn bn):=⟨512,[],[],[10],fun c a=>axA⟩::t511
theorem aH7:cG (cT g) t512:=dh di aH6 [(1,2)] .o (by kernel_rfl) fun c a=>by kernel_rfl
def t528:List (cn bn):=⟨528,[],[],[10],fun c a=>axB⟩::t512
theorem aH8:cG (cT g) t528:=dh di aH7 [(1,2)] .o (by kernel_rfl) fun c a=>by kernel_rfl
def t513:List (cn bn):=⟨513,[],[.v 2,.v 0],[0],fun c a=>awA a.1 a.2.1⟩::t528
theorem aH9:cG (cT g) t513:=dh di aH8 [] (.two .o (.two .o (.two (.two .o (.fe [(.s 6,.p 0)] [(.exit 0,[]),(.ret,[(.s 4,.p 0)])] (.two .o (.two (.two .o (.pc [(.normal,[(.s 38,.p 1)])] .o .o)) .o)))) .o))) (by kernel_rfl) fun c a=>by kernel_rfl
def t483:List (cn bn):=⟨483,[],[.v 2,.v 0],[0,0],fun c a=>axE a.1 a.2.1⟩::t513
theorem aIa:cG (cT g) t483:=dh di aH9 [] (.two .o (.two .o (.two (.two .o (.two (.two (.fe [(.s 6,.p 0)] [(.exit 0,[(.s 6,.p 0)])] (.two (.pc [(.normal,[(.s 34,.p 1)])] .o .o) .o)) .o) .o)) (.two (.two .o (.two (.two (.fe [(.s 6,.p 0)] [(.exit 2,[(.s 6,.p 0)])] (.two (.pc [(.normal,[(.s 58,.p 1)])] .o .o) .o)) .o) .o)) (.two .o (.two (.fe [(.s 6,.p 0)] [(.exit 4,[(.s 6,.p 0)])] (.two (.pc [(.normal,[(.s 106,.p 1)])] .o .o) .o)) .o)))))) (by kernel_rfl) fun c a=>by kernel_rfl
def t430:List (cn bn):=⟨430,[],[.v 2],[31,0],fun c a=>ayQ a.1⟩::t483
theorem aIb:cG (cT g) t430:=dh di aIa [(12,30),(34,30),(44,30)] (.two .o (.two .o (.two .o (.two .o (.two (.fe [(.s 5,.p 0),(.s 4,.r 31)] [(.exit 0,[(.s 5,.p 0),(.s 4,.r 31)])] .o) .o))))) (by kernel_rfl) fun c a=>by kernel_rfl
def t361:List (cn bn):=⟨361,[],[.v 2],[0],fun c a=>axF a.1⟩::t430
theorem aIc:cG (cT g) t361:=dh di aIb [] (.two .o (.two .o (.two (.pc [(.normal,[(.s 32,.p 1)])] .o .o) .o))) (by kernel_rfl) fun c a=>by kernel_rfl
def t239:List (cn bn):=⟨239,[],[.v 2],[1],fun c a=>ajb a.1⟩::t361
theorem aML:cG (cT g) t239:=dh di aIc [] (.two .o (.pc [(.normal,[(.s 2,.p 1)])] .o .o)) (by kernel_rfl) fun c a=>by kernel_rfl
def t240:List (cn bn):=⟨240,[],[.v 0],[1],fun c a=>avx a.1⟩::t239
theorem aId:cG (cT g) t240:=dh di aML [] (.two .o (.pu [2] .o)) (by kernel_rfl) fun c a=>by kernel_rfl
def t122:List (cn bn):=⟨122,[],[.v 6,.v 9],[1],fun c a=>avU a.1 a.2.1⟩::t240
theorem aLS:cG (cT g) t122:=dh di aId [] (.two .o (.two (.pc [(.normal,[(.s 23,.p 1)])] .o .o) (.two .o (.two (.two .o (.fe [(.s 5,.p 0),(.s 6,.p 0),(.s 7,.p 0)] [(.exit 0,[(.s 5,.p 0),(.s 6,.p 0)]),(.ret,[(.s 4,.c (.b0 false))])] (.two .o (.two (.two .o (.two (.two .o (.fe [(.s 9,.p 0)] [(.exit 2,[]),(.ret,[(.s 4,.c (.b0 false))])] .o)) (.two .o (.two (.pc [(.normal,[(.s 68,.p 1)])] .o .o) (.two (.pu [87] .o) (.two (.pu [112] .o) .o)))))) .o)))) (.pu [4] .o))))) (by kernel_rfl) fun c a=>by kernel_rfl
def t123:List (cn bn):=⟨123,[],[.v 10],[1],fun c a=>awE a.1⟩::t122
theorem arF:cG (cT g) t123:=dh di aLS [] (.two .o (.two (.two .o (.fe [(.s 3,.p 0)] [(.exit 0,[]),(.ret,[(.s 2,.c (.b0 false))])] (.two .o (.two (.pc [(.normal,[(.s 25,.p 1)])] .o .o) .o)))) .o)) (by kernel_rfl) fun c a=>by kernel_rfl
def t127:List (cn bn):=⟨127,[],[.v 6,.v 9,.v 1],[28],fun c a=>axH a.1 a.2.1 a.2.2.1⟩::t123
theorem ar0:cG (cT g) t127:=dh di arF [(10,7),(49,7)] (.two .o (.two .o (.two .o (.two (.two .o (.fe [(.s 8,.p 0),(.s 7,.r 28)] [(.exit 0,[(.s 7,.r 28)])] (.two .o (.two (.two .o (.fe [(.s 9,.p 0),(.s 7,.r 28),(.m 0 0,.d)] [(.exit 2,[(.s 7,.r 28),(.m 0 0,.d)])] (.two (.pc [(.normal,[(.s 40,.p 1)])] .o .o) .o))) .o)))) .o)))) (by kernel_rfl) fun c a=>by kernel_rfl
def t62:List (cn bn):=⟨62,[],[.v 26],[28],fun c a=>avz a.1⟩::t127
theorem agX:cG (cT g) t62:=dh di ar0 [] .o (by kernel_rfl) fun c a=>by kernel_rfl
def t362:List (cn bn):=⟨362,[],[.v 12,.v 12],[1],fun c a=>ayR a.1 a.2.1⟩::t62
theorem aIe:cG (cT g) t362:=dh di agX [] (.two .o (.two .o (.two (.two .o (.fe [(.s 5,.p 0)] [(.exit 0,[]),(.ret,[(.s 4,.c (.b0 false))])] .o)) .o))) (by kernel_rfl) fun c a=>by kernel_rfl
def t242:List (cn bn):=⟨242,[],[.v 13,.v 13],[1],fun c a=>awF a.1 a.2.1⟩::t362
theorem aME:cG (cT g) t242:=dh di aIe [] (.two .o (.pc [(.normal,[(.s 4,.p 1)])] .o .o)) (by kernel_rfl) fun c a=>by kernel_rfl
def t245:List (cn bn):=⟨245,[],[.v 0,.v 0],[1],fun c a=>au9 a.1 a.2.1⟩::t242
theorem aM2:cG (cT g) t245:=dh di aME [] (.two .o (.pu [4] .o)) (by kernel_rfl) fun c a=>by kernel_rfl
def t243:List (cn bn):=⟨243,[],[.v 13,.v 0],[1],fun c a=>awH a.1 a.2.1⟩::t245
theorem aMX:cG (cT g) t243:=dh di aM2 [] (.two .o (.two (.two .o (.fe [(.s 5,.p 0)] [(.exit 0,[]),(.ret,[(.s 4,.c (.b0 false))])] (.two .o (.two (.two .o (.pc [(.normal,[(.s 54,.p 1)])] .o .o)) .o)))) .o)) (by kernel_rfl) fun c a=>by kernel_rfl
def t244:List (cn bn):=⟨244,[],[.v 26,.v 14],[1],fun c a=>axJ a.1 a.2.1⟩::t243
theorem aM1:cG (cT g) t244:=dh di aMX [] (.two .o (.two (.pu [17] .o) (.two (.two .o (.fe [(.s 5,.p 0)] [(.exit 0,[]),(.ret,[(.s 4,.c (.b0 true))])] (.two .o (.two (.two .o (.pc [(.normal,[(.s 69,.p 1)])] .o .o)) .o)))) .o))) (by kernel_rfl) fun c a=>by kernel_rfl
def t124:List (cn bn):=⟨124,[],[.v 26],[1],fun c a=>axK a.1⟩::t244
theorem arK:cG (cT g) t124:=dh di aM1 [(33,11),(43,11)] (.two .o (.two .o (.two (.pu [24] .o) (.two (.two .o (.fe [(.s 4,.p 0)] [(.exit 0,[]),(.ret,[(.s 2,.c (.b0 false))])] (.two .o (.two (.two .o (.two .o (.pc [(.normal,[(.s 72,.p 1)])] .o .o))) .o)))) (.two (.two .o (.fe [(.s 7,.p 0)] [(.exit 2,[]),(.ret,[(.s 2,.c (.b0 false))])] (.two .o (.two (.two .o (.two (.pu [95] .o) (.pc [(.normal,[(.s 9,.p 1)])] .o (.pc [(.normal,[(.s 135,.p 1)])] .o .o)))) .o)))) .o))))) (by kernel_rfl) fun c a=>by kernel_rfl
def t246:List (cn bn):=⟨246,[],[.v 6,.v 6],[1],fun c a=>awL a.1 a.2.1⟩::t124
theorem aMg:cG (cT g) t246:=dh di arK [] (.two .o (.two (.two .o (.fe [(.s 5,.p 0)] [(.exit 0,[]),(.ret,[(.s 4,.p 1)])] (.two (.pu [15] .o) .o))) .o)) (by kernel_rfl) fun c a=>by kernel_rfl
def t431:List (cn bn):=⟨431,[],[.v 6,.v 6,.v 0],[6],fun c a=>awM a.1 a.2.1 a.2.2.1⟩::t246
theorem aIf:cG (cT g) t431:=dh di aMg [(11,0)] (.two .o (.two .o (.two (.two .o (.fe [(.s 2,.p 0),(.s 8,.p 0),(.s 7,.r 6),(.m 0 0,.d)] [(.exit 0,[(.s 7,.r 6),(.m 0 0,.d)])] .o)) .o))) (by kernel_rfl) fun c a=>by kernel_rfl
def t363:List (cn bn):=⟨363,[],[.v 6,.v 9,.v 1,.v 0],[0,6,1],fun c a=>axL a.1 a.2.1 a.2.2.1 a.2.2.2.1⟩::t431
theorem aIg:cG (cT g) t363:=dh di aIf [] (.two .o (.two .o (.two (.two .o (.fe [(.s 11,.p 0)] [(.exit 0,[]),(.ret,[(.s 8,.p 0),(.s 9,.p 6),(.s 10,.c (.b0 true))])] (.two .o (.two (.two .o (.pc [(.normal,[(.s 56,.p 1)])] .o .o)) .o)))) .o))) (by kernel_rfl) fun c a=>by kernel_rfl
def t364:List (cn bn):=⟨364,[],[.v 0],[1],fun c a=>axM a.1⟩::t363
theorem aIh:cG (cT g) t364:=dh di aIg [] (.two .o (.pu [2] .o)) (by kernel_rfl) fun c a=>by kernel_rfl
def t247:List (cn bn):=⟨247,[],[.v 26,.v 23],[1],fun c a=>axP a.1 a.2.1⟩::t364
theorem aOg:cG (cT g) t247:=dh di aIh [] (.two .o (.two .o (.two (.two .o (.fe [(.s 6,.p 0)] [(.exit 0,[]),(.ret,[(.s 4,.c (.b0 false))])] (.two .o (.two (.two .o (.pc [(.normal,[(.s 65,.p 1)])] .o .o)) .o)))) (.two (.two .o (.fe [(.s 8,.p 0)] [(.exit 2,[]),(.ret,[(.s 4,.c (.b0 false))])] .o)) (.two (.two .o (.fe [(.s 9,.p 0)] [(.exit 4,[]),(.ret,[(.s 4,.c (.b0 false))])] (.two .o (.two (.two .o (.two .o (.two (.pc [(.normal,[(.s 121,.p 1)])] .o .o) (.two .o (.two (.pc [(.normal,[(.s 144,.p 1)])] .o .o) (.pc [(.normal,[(.s 169,.p 1)])] .o .o)))))) .o)))) (.pu [4] .o)))))) (by kernel_rfl) fun c a=>by kernel_rfl
def t125:List (cn bn):=⟨125,[],[.v 26],[1],fun c a=>axS a.1⟩::t247
theorem arN:cG (cT g) t125:=dh di aOg [(12,2),(28,2)] (.two .o (.two .o (.two (.two .o (.fe [(.s 4,.p 0),(.s 3,.r 10)] [(.exit 0,[(.s 3,.r 10)]),(.ret,[(.s 2,.c (.b0 false))])] (.two .o (.two (.two .o (.two .o (.two (.two .o (.fe [(.s 6,.p 0)] [(.exit 2,[]),(.ret,[(.s 2,.c (.b0 false))])] (.two .o (.two (.pc [(.normal,[(.s 53,.p 1)])] .o .o) .o)))) .o))) .o)))) (.two (.pc [(.normal,[(.s 72,.p 1)])] .o .o) (.two (.two .o (.fe [(.s 7,.p 0)] [(.exit 4,[]),(.ret,[(.s 2,.c (.b0 false))])] (.two .o (.two (.two .o (.two (.pc [(.normal,[(.s 109,.p 1)])] .o .o) (.two (.two .o (.fe [(.s 9,.p 0)] [(.exit 6,[]),(.ret,[(.s 2,.c (.b0 false))])] (.two .o (.two (.two .o (.pc [(.normal,[(.s 162,.p 1)])] .o .o)) .o)))) (.pc [(.normal,[]),(.ret,[(.s 2,.c (.b0 false))])] (.two .o (.two (.two .o (.pc [(.normal,[(.s 190,.p 1)])] .o .o)) .o)) .o)))) .o)))) .o))))) (by kernel_rfl) fun c a=>by kernel_rfl
def t248:List (cn bn):=⟨248,[],[.v 26,.v 0,.v 0,.v 0],[1],fun c a=>axT a.1 a.2.1 a.2.2.1 a.2.2.2.1⟩::t125
theorem aJc:cG (cT g) t248:=aDU di arN (X:=Model × Int × Int × Int) (fun g p=>auQ (fun c6 cb dR gR=>g (c6,cb,dR,gR)) p.1 p.2.1 p.2.2.1 p.2.2.2) (fun _ a=>(a.1,a.2.1,a.2.2.1,a.2.2.2.1)) (fun _ _=>rfl) [] (.two .o (.two .o (.two (.two .o (.fe [(.s 9,.p 0)] [(.exit 0,[]),(.ret,[(.s 8,.c (.b0 true))])] (.two (.pu [21] .o) (.two (.pc [(.normal,[(.s 44,.p 1)])] .o .o) .o)))) .o))) (by kernel_rfl) fun g c a=>by kernel_rfl
def t126:List (cn bn):=⟨126,[],[.v 26],[1],fun c a=>axW a.1⟩::t248
theorem aL3:cG (cT g) t126:=dh di aJc [] (.two .o (.two .o (.two (.two .o (.fe [(.s 3,.p 0)] [(.exit 0,[]),(.ret,[(.s 2,.c (.b0 false))])] (.two .o (.two (.two .o (.two (.pu [54] .o) (.two .lt (.pc [(.normal,[(.s 106,.p 1)])] .o .o)))) .o)))) (.two (.two .o (.fe [(.s 7,.p 0)] [(.exit 2,[]),(.ret,[(.s 2,.c (.b0 false))])] .o)) .o)))) (by kernel_rfl) fun c a=>by kernel_rfl
def t61:List (cn bn):=⟨61,[],[.v 26],[1],fun c a=>avV a.1⟩::t126
theorem aJd:cG (cT g) t61:=dh di aL3 [] (.two .o (.two (.pc [(.normal,[(.s 20,.p 1)])] .o .o) (.pc [(.normal,[(.s 2,.p 1)])] .o .o))) (by kernel_rfl) fun c a=>by kernel_rfl
def t28:List (cn bn):=⟨28,[],[.v 26],[28],fun c a=>avW a.1⟩::t61
theorem aOm:cG (cT g) t28:=dh di aJd [] .o (by kernel_rfl) fun c a=>by kernel_rfl
def t29:List (cn bn):=⟨29,[],[.v 7],[0],fun c a=>axn a.1⟩::t28
theorem aOo:cG (cT g) t29:=dh di aOm [] .o (by kernel_rfl) fun c a=>by kernel_rfl
def t10:List (cn bn):=⟨10,[],[.v 26],[6],fun c a=>av4 a.1⟩::t29
theorem arA:cG (cT g) t10:=dh di aOo [(6,0),(21,0)] (.two .o (.two .o (.two .o (.two (.two .o (.fe [(.s 5,.p 0),(.s 3,.r 6)] [(.exit 0,[(.s 3,.r 6)])] .o)) .o)))) (by kernel_rfl) fun c a=>by kernel_rfl
def t63:List (cn bn):=⟨63,[],[.v 6,.v 9,.v 1],[0],fun c a=>av5 a.1 a.2.1 a.2.2.1⟩::t10
theorem ar4:cG (cT g) t63:=dh di arA [] .o (by kernel_rfl) fun c a=>by kernel_rfl
def t30:List (cn bn):=⟨30,[],[.v 26,.v 6],[1],fun c a=>auR a.1 a.2.1⟩::t63
theorem aOn:cG (cT g) t30:=dh di ar4 [] (.two .o (.pc [(.normal,[(.s 4,.p 1)])] .o .o)) (by kernel_rfl) fun c a=>by kernel_rfl
def t64:List (cn bn):=⟨64,[],[.v 15,.f [14] 1],[0],fun c a=>aCd a.1 a.2.1⟩::t30
theorem arI:cG (cT g) t64:=dh di aOn [] (.two .o (.two (.two .o (.fe [(.s 8,.p 0)] [(.exit 0,[]),(.ret,[(.s 4,.p 0)])] .o)) .o)) (by kernel_rfl) fun c a=>by kernel_rfl
def t31:List (cn bn):=⟨31,[],[.v 15,.f [14] 1],[1],fun c a=>axo a.1 a.2.1⟩::t64
theorem aOM:cG (cT g) t31:=dh di arI [] .o (by kernel_rfl) fun c a=>by kernel_rfl
def t65:List (cn bn):=⟨65,[],[.v 14,.v 0],[1],fun c a=>auS a.1 a.2.1⟩::t31
theorem aOE:cG (cT g) t65:=dh di aOM [] (.two .o (.pu [4] .o)) (by kernel_rfl) fun c a=>by kernel_rfl
def t128:List (cn bn):=⟨128,[6,14],[.v 0,.v 0],[1],fun c a=>avc c.1 c.2 a.1 a.2.1⟩::t65
theorem ar1:cG (cT g) t128:=dh di aOE [] .o (by kernel_rfl) fun c a=>by kernel_rfl
def t249:List (cn bn):=⟨249,[],[.v 6,.v 0],[0],fun c a=>aCe a.1 a.2.1⟩::t128
theorem aOA:cG (cT g) t249:=dh di ar1 [] (.two .o (.two (.two .o (.fe [(.s 8,.p 0)] [(.exit 0,[]),(.ret,[(.s 4,.p 0)])] .o)) .o)) (by kernel_rfl) fun c a=>by kernel_rfl
def t129:List (cn bn):=⟨129,[],[.v 6,.v 0],[1],fun c a=>av6 a.1 a.2.1⟩::t249
theorem ar3:cG (cT g) t129:=dh di aOA [] .o (by kernel_rfl) fun c a=>by kernel_rfl
def t66:List (cn bn):=⟨66,[],[.v 14,.v 6],[6],fun c a=>awa a.1 a.2.1⟩::t129
theorem aOJ:cG (cT g) t66:=axs di ar3 [(26,0),(27,6),(76,0),(78,6)] [(16,0,8)] axc (.two .o (.two .o (.two .o (.two .o (.two (.two .o (.fe [(.s 21,.p 0),(.s 6,.r 32)] [(.exit 0,[(.s 6,.r 32)])] .o)) (.two (.fe [(.s 6,.r 32),(.m 2 0,.d)] [(.exit 2,[]),(.ret,[(.s 4,.p 6)])] (.two .o (.two .o (.two (.two .o (.fe [(.s 35,.p 0),(.s 8,.r 32)] [(.exit 4,[(.s 8,.r 32)]),(.ret,[(.s 4,.p 6)])] (.two .o (.two .o (.two (.two .o (.two .o (.two .o (.two .o (.fe [(.s 12,.p 0),(.s 8,.r 32),(.m 4 0,.d)] [(.exit 6,[(.s 8,.r 32),(.m 4 0,.d)])] (.two .o (.two (.pc [(.normal,[(.s 71,.p 1)])] .o .o) .o))))))) .o))))) .o)))) .o)))))) (by kernel_rfl) fun c a=>by kernel_rfl
def t67:List (cn bn):=⟨67,[],[.v 0,.v 0,.v 0],[1],fun c a=>aCf a.1 a.2.1 a.2.2.1⟩::t66
theorem aOL:cG (cT g) t67:=dh di aOJ [] (.two .o (.two .o (.pu [6] .o))) (by kernel_rfl) fun c a=>by kernel_rfl
def t33:List (cn bn):=⟨33,[],[.v 14,.v 6],[1],fun c a=>zw a.1 a.2.1⟩::t67
theorem aOP:cG (cT g) t33:=dh di aOL [] (.two .o (.two (.two .o (.two (.pc [(.normal,[(.s 4,.p 1)])] .o .o) .o)) (.two .o (.two (.two .o (.fe [(.s 5,.p 0),(.s 6,.p 0),(.s 27,.p 0)] [(.exit 0,[(.s 5,.p 0),(.s 6,.p 0)]),(.ret,[(.s 4,.c (.b0 false))])] (.two .o (.two .o (.two (.two .o (.two (.pu [40] .o) .o)) .o))))) (.pc [(.normal,[(.s 4,.p 1)])] .o .o))))) (by kernel_rfl) fun c a=>by kernel_rfl
def t32:List (cn bn):=⟨32,[6],[.v 14],[1],fun c a=>awb c a.1⟩::t33
theorem aOO:cG (cT g) t32:=dh di aOP [] .o (by kernel_rfl) fun c a=>by kernel_rfl
def t11:List (cn bn):=⟨11,[],[.v 26,.v 6],[1],fun c a=>awc a.1 a.2.1⟩::t32
theorem asq:cG (cT g) t11:=dh di aOO [] (.two .o (.pc [(.normal,[(.s 4,.p 1)])] .o .o)) (by kernel_rfl) fun c a=>by kernel_rfl
def t34:List (cn bn):=⟨34,[],[.v 26,.v 6],[1],fun c a=>auU a.1 a.2.1⟩::t11
theorem aOQ:cG (cT g) t34:=dh di asq [] (.two .o (.pc [(.normal,[(.s 4,.p 1)])] .o .o)) (by kernel_rfl) fun c a=>by kernel_rfl
def t130:List (cn bn):=⟨130,[],[.v 14,.v 0],[1],fun c a=>auV a.1 a.2.1⟩::t34
theorem arH:cG (cT g) t130:=dh di aOQ [] (.two .o (.two (.two .o (.two (.pu [4] .o) .o)) (.two (.two .o (.fe [(.s 5,.p 0)] [(.exit 0,[]),(.ret,[(.s 4,.c (.b0 false))])] (.two .o (.two (.pc [(.normal,[(.s 60,.p 1)])] .o .o) .o)))) .o))) (by kernel_rfl) fun c a=>by kernel_rfl
def t365:List (cn bn):=⟨365,[],[.v 14,.v 6,.v 0,.v 0],[1],fun c a=>avj a.1 a.2.1 a.2.2.1 a.2.2.2.1⟩::t130
theorem aMI:cG (cT g) t365:=dh di arH [] .o (by kernel_rfl) fun c a=>by kernel_rfl
def t366:List (cn bn):=⟨366,[],[.v 6,.v 0],[1],fun c a=>awe a.1 a.2.1⟩::t365
theorem aMM:cG (cT g) t366:=dh di aMI [] (.two .o (.two (.two .o (.fe [(.s 5,.p 0)] [(.exit 0,[]),(.ret,[(.s 4,.c (.b0 true))])] .o)) .o)) (by kernel_rfl) fun c a=>by kernel_rfl
def t250:List (cn bn):=⟨250,[],[.v 14,.v 6,.v 6,.v 0],[32],fun c a=>awf a.1 a.2.1 a.2.2.1 a.2.2.2.1⟩::t366
theorem aJe:cG (cT g) t250:=aDU di aMM (X:=Constraint × (ak Int) × (ak Int) × Int) (fun g p=>auW (fun c6 cb dR gR=>g (c6,cb,dR,gR)) p.1 p.2.1 p.2.2.1 p.2.2.2) (fun _ a=>(a.1,a.2.1,a.2.2.1,a.2.2.2.1)) (fun _ _=>rfl) [(30,6),(31,6),(56,0),(60,0),(63,0)] (.two .o (.two .o (.two .o (.two .o (.two (.two .o (.fe [(.s 11,.p 0),(.s 10,.r 32)] [(.exit 0,[(.s 10,.r 32)])] (.two .o (.two (.two (.pc [(.normal,[(.s 52,.p 1)])] .o .o) (.md 9)) .o)))) .o))))) (by kernel_rfl) fun g c a=>by kernel_rfl
def t131:List (cn bn):=⟨131,[],[.v 14,.v 6],[6],fun c a=>awg a.1 a.2.1⟩::t250
theorem aOh:cG (cT g) t131:=dh di aJe [(33,0)] (.two .o (.two (.pc [(.normal,[(.s 17,.p 1)])] .o .o) (.two (.two .o (.fe [(.s 5,.p 0)] [(.exit 0,[]),(.ret,[(.s 4,.p 6)])] (.two .o (.two (.two .o (.fe [(.s 6,.p 0)] [(.exit 2,[]),(.ret,[(.s 4,.p 6)])] .o)) .o)))) .o))) (by kernel_rfl) fun c a=>by kernel_rfl
def t132:List (cn bn):=⟨132,[],[.v 13,.v 6],[1],fun c a=>axp a.1 a.2.1⟩::t131
theorem aJf:cG (cT g) t132:=dh di aOh [] (.two .o (.two .o (.two (.two .o (.fe [(.s 5,.p 0),(.s 6,.p 0),(.s 7,.p 0)] [(.exit 0,[(.s 5,.p 0),(.s 6,.p 0)])] .o)) (.two .o (.two .o (.pu [4] .o)))))) (by kernel_rfl) fun c a=>by kernel_rfl
def t68:List (cn bn):=⟨68,[],[.v 14,.v 6],[1],fun c a=>awh a.1 a.2.1⟩::t132
theorem asg:cG (cT g) t68:=dh di aJf [] .o (by kernel_rfl) fun c a=>by kernel_rfl
def t36:List (cn bn):=⟨36,[],[.v 14,.v 6],[1],fun c a=>auZ a.1 a.2.1⟩::t68
theorem aOR:cG (cT g) t36:=dh di asg [] .o (by kernel_rfl) fun c a=>by kernel_rfl
def t35:List (cn bn):=⟨35,[],[.v 26,.v 6],[1],fun c a=>awj a.1 a.2.1⟩::t36
theorem aOz:cG (cT g) t35:=dh di aOR [] (.two .o (.two (.two .o (.fe [(.s 5,.p 0)] [(.exit 0,[]),(.ret,[(.s 4,.c (.b0 false))])] .o)) .o)) (by kernel_rfl) fun c a=>by kernel_rfl
def t12:List (cn bn):=⟨12,[],[.v 26,.v 6],[1],fun c a=>awk a.1 a.2.1⟩::t35
theorem ass:cG (cT g) t12:=dh di aOz [] (.two .o (.pc [(.normal,[(.s 4,.p 1)])] .o .o)) (by kernel_rfl) fun c a=>by kernel_rfl
def t13:List (cn bn):=⟨13,[],[.v 26,.v 6],[6],fun c a=>awm a.1 a.2.1⟩::t12
theorem aM9:cG (cT g) t13:=dh di ass [(26,0)] (.two .o (.two .o (.two .o (.two (.two .o (.fe [(.s 15,.p 0),(.s 5,.r 6)] [(.exit 0,[(.s 5,.r 6)])] .o)) .o)))) (by kernel_rfl) fun c a=>by kernel_rfl
def t14:List (cn bn):=⟨14,[],[.v 26,.v 6],[6],fun c a=>awo a.1 a.2.1⟩::t13
theorem aNa:cG (cT g) t14:=dh di aM9 [(7,0),(30,0)] (.two .o (.two .o (.two .o (.two (.two .o (.fe [(.s 6,.p 0),(.s 5,.r 6)] [(.exit 0,[(.s 5,.r 6)])] .o)) .o)))) (by kernel_rfl) fun c a=>by kernel_rfl
def t3:List (cn bn):=⟨3,[],[.v 26,.v 6],[1],fun c a=>awp a.1 a.2.1⟩::t14
theorem b1:cG (cT g) t3:=dh di aNa [] (.two .o (.two .o (.two (.pc [(.normal,[(.s 14,.p 1)])] .o .o) (.pc [(.normal,[(.s 4,.p 1)])] .o .o)))) (by kernel_rfl) fun c a=>by kernel_rfl
theorem ast:cT g 3=some (.code (BF (cT g) 3)):=(Jl (J:=bn) (e:=⟨3,[],[.v 26,.v 6],[1],fun c a=>awp a.1 a.2.1⟩) (by kernel_rfl)).1
theorem asu (m:Model)(st:ak Int)(cd:cm st.l):bZ (cT g) (.fn 3 [] []) [vn m,bg 1 aD st] []=some (.bool true,[],0):=b1.hd [] [] () (m,st,()) [] _ true rfl (.nil []) ⟨_,rfl,_,rfl,rfl⟩ (aHj m st cd)
end
end Go.Abs.hk
