/- Texts of this claim, joined and written short by a program. -/
import Derived.Test.YtonmjjfciemcoaaGreatDoorP30
import Derived.Test.YtonmjjfciemcoaaGreatDoorP29
import Derived.Test.YtonmjjfciemcoaaGreatDoorP32
import Derived.Test.YtonmjjfciemcoaaGreatDoorP00
set_option linter.unusedVariables false
set_option linter.unusedSimpArgs false
set_option linter.unusedSectionVars false
set_option maxRecDepth 100000
namespace Go.Abs.hk
open Go Go.Abs Go.Abs.gK Go.Abs.Lex
noncomputable section
variable{g:Nat->Option Obj}
theorem aEQ:∀q∈([(24,0,8)]:List (Nat × Nat × Nat)),WZ bn (cT g) q.1 q.2:=fun q h=>by
 simp only[dA,sP,or_false]at h;rcases h with rfl;exact⟨8,[aD 0],by kernel_rfl,by decide⟩
def t0:List (cn bn):=[]
theorem gU:cG (cT g) t0:=fun _ h=>by cases h
def t7:List (cn bn):=⟨7,[],[],[1],fun c a=>ayF⟩::t0
theorem jI:cG (cT g) t7:=gU.cons (tI rfl fun H a r h=>by
 cases h;exact Dy (spec:=Dd [] (.bool true)) (by kernel_rfl) rfl (by kernel_rfl) H)
def t379:List (cn bn):=⟨379,[],[.v 3],[1],fun c a=>yT a.1⟩::t7
theorem aER:cG (cT g) t379:=dh di jI [] (.two .o (.pu [2] .o)) (by kernel_rfl) fun c a=>by kernel_rfl
def t382:List (cn bn):=⟨382,[],[.v 3],[1],fun c a=>yU a.1⟩::t379
theorem aES:cG (cT g) t382:=dh di aER [] (.two .o (.pu [2] .o)) (by kernel_rfl) fun c a=>by kernel_rfl
def t381:List (cn bn):=⟨381,[],[.v 3],[1],fun c a=>DT a.1⟩::t382
theorem aET:cG (cT g) t381:=dh di aES [] (.two .o (.pc [(.normal,[(.s 2,.p 1)])] .o .o)) (by kernel_rfl) fun c a=>by kernel_rfl
def t384:List (cn bn):=⟨384,[],[.v 3],[1],fun c a=>A9 a.1⟩::t381
theorem aEU:cG (cT g) t384:=dh di aET [] (.two .o (.pu [2] .o)) (by kernel_rfl) fun c a=>by kernel_rfl
def t503:List (cn bn):=⟨503,[],[.v 2,.v 2],[1],fun c a=>Ni a.1 a.2.1⟩::t384
theorem aLB:cG (cT g) t503:=dh di aEU [] (.two .o (.pc [(.normal,[(.s 4,.p 1)])] .o .o)) (by kernel_rfl) fun c a=>by kernel_rfl
def t451:List (cn bn):=⟨451,[],[.v 2,.v 2],[1],fun c a=>HL a.1 a.2.1⟩::t503
theorem aLC:cG (cT g) t451:=dh di aLB [] .o (by kernel_rfl) fun c a=>by kernel_rfl
def t452:List (cn bn):=⟨452,[],[.v 2,.v 3],[0],fun c a=>strings_IndexByte a.1 a.2.1⟩::t451
theorem aLD:cG (cT g) t452:=aLC.cons (tI rfl fun H ⟨s,c,_⟩ r h=>by
 cases h;exact Dy (spec:=F8) (by kernel_rfl) rfl rfl H)
def t383:List (cn bn):=⟨383,[],[.v 2],[0],fun c a=>A7 a.1⟩::t452
theorem aEV:cG (cT g) t383:=dh di aLD [(5,2)] (.two .o (.two (.two .o (.fe [(.s 7,.p 0)] [(.exit 0,[]),(.ret,[(.s 2,.c (.int .i64 2))])] .o)) (.two (.pc [(.normal,[(.s 22,.p 1)])] .o .o) .o))) (by kernel_rfl) fun c a=>by kernel_rfl
def t385:List (cn bn):=⟨385,[],[.v 2],[1],fun c a=>DP a.1⟩::t383
theorem aEW:cG (cT g) t385:=dh di aEV [] (.two .o (.pc [(.normal,[(.s 2,.p 1)])] .o .o)) (by kernel_rfl) fun c a=>by kernel_rfl
def t380:List (cn bn):=⟨380,[],[.v 2,.f [3] 1],[0],fun c a=>A8 a.1 a.2.1⟩::t385
theorem aEX:cG (cT g) t380:=dh di aEW [] (.two .o (.two .o (.two (.fe [(.s 5,.p 0)] [(.exit 0,[(.s 5,.p 0)])] (.two (.pc [(.normal,[(.s 16,.p 1)])] .o .o) .o)) .o))) (by kernel_rfl) fun c a=>by kernel_rfl
def t450:List (cn bn):=⟨450,[],[.v 3],[1],fun c a=>Ba a.1⟩::t380
theorem aEY:cG (cT g) t450:=dh di aEX [] .o (by kernel_rfl) fun c a=>by kernel_rfl
def t378:List (cn bn):=⟨378,[],[.v 2],[0],fun c a=>DS a.1⟩::t450
theorem aEZ:cG (cT g) t378:=dh di aEY [] (.two .o (.two .o (.two (.fe [(.s 3,.p 0)] [(.exit 0,[(.s 3,.p 0)]),(.ret,[(.s 2,.p 0)])] .o) .o))) (by kernel_rfl) fun c a=>by kernel_rfl
def t259:List (cn bn):=⟨259,[],[.v 2],[0],fun c a=>pU a.1⟩::t378
theorem aLE:cG (cT g) t259:=aEZ.cons (tI rfl fun H ⟨w,_⟩ r h=>by
 cases h;exact an5 ⟨X5 aER.hd,X6 aES.hd,X7 aET.hd,X8 aEU.hd,X9 aEW.hd,Ya aEV.hd,Yb aEX.hd,Yc aEZ.hd,Yd aEY.hd,by kernel_rfl,by kernel_rfl,by kernel_rfl,by kernel_rfl,⟨Co,by kernel_rfl,by kernel_rfl⟩⟩ w H)
def t38:List (cn bn):=⟨38,[],[.v 6,.v 9],[1],fun c a=>HN a.1 a.2.1⟩::t259
theorem aLF:cG (cT g) t38:=dh di aLE [] (.two .o (.two (.two .o (.fe [(.s 5,.p 0)] [(.exit 0,[]),(.ret,[(.s 4,.c (.b0 false))])] (.two .o (.two (.pc [(.normal,[(.s 27,.p 1)])] .o .o) .o)))) (.pu [4] .o))) (by kernel_rfl) fun c a=>by kernel_rfl
def t8:List (cn bn):=⟨8,[],[.v 26],[1],fun c a=>HU a.1⟩::t38
theorem L6:cG (cT g) t8:=dh di aLF [] (.two .o (.two (.pc [(.normal,[(.s 56,.p 1)])] .o .o) (.two (.two .o (.fe [(.s 3,.p 0)] [(.exit 0,[]),(.ret,[(.s 2,.c (.b0 false))])] .o)) (.two (.two .o (.fe [(.s 4,.p 0)] [(.exit 2,[]),(.ret,[(.s 2,.c (.b0 false))])] .o)) (.two (.two .o (.fe [(.s 5,.p 0)] [(.exit 4,[]),(.ret,[(.s 2,.c (.b0 false))])] (.two .o (.two (.pc [(.normal,[(.s 111,.p 1)])] .o .o) .o)))) (.two (.two .o (.fe [(.s 6,.p 0)] [(.exit 6,[]),(.ret,[(.s 2,.c (.b0 false))])] (.two .o (.two (.two .o (.two (.pc [(.normal,[(.s 150,.p 1)])] .o .o) (.two .o (.fe [(.s 8,.p 0)] [(.exit 8,[]),(.ret,[(.s 2,.c (.b0 false))])] .o)))) .o)))) .o)))))) (by kernel_rfl) fun c a=>by kernel_rfl
def t10:List (cn bn):=⟨10,[],[.v 6],[1],fun c a=>axo a.1⟩::t8
theorem arA:cG (cT g) t10:=dh di L6 [] (.two .o (.two (.two .o (.fe [(.s 3,.p 0)] [(.exit 0,[]),(.ret,[(.s 2,.c (.b0 false))])] (.two .o (.two (.pc [(.normal,[(.s 21,.p 1)])] .o .o) .o)))) .o)) (by kernel_rfl) fun c a=>by kernel_rfl
def t51:List (cn bn):=⟨51,[],[.v 6,.f [0] 1],[0],fun c a=>Wu a.1 a.2.1⟩::t10
theorem aLG:cG (cT g) t51:=dh di arA [] (.two .o (.two (.two .o (.fe [(.s 8,.p 0)] [(.exit 0,[]),(.ret,[(.s 4,.p 0)])] .o)) .o)) (by kernel_rfl) fun c a=>by kernel_rfl
def t22:List (cn bn):=⟨22,[],[.v 6,.f [0] 1],[1],fun c a=>DW a.1 a.2.1⟩::t51
theorem ar5:cG (cT g) t22:=dh di aLG [] .o (by kernel_rfl) fun c a=>by kernel_rfl
def t313:List (cn bn):=⟨313,[6],[.v 0],[1],fun c a=>Nq c a.1⟩::t22
theorem aLH:cG (cT g) t313:=dh di ar5 [] (.two .o (.pu [3] .o)) (by kernel_rfl) fun c a=>by kernel_rfl
def t192:List (cn bn):=⟨192,[],[.v 6,.v 6],[1],fun c a=>HX a.1 a.2.1⟩::t313
theorem aLI:cG (cT g) t192:=dh di aLH [] (.two .o (.pc [(.normal,[(.s 4,.p 1)])] .o .o)) (by kernel_rfl) fun c a=>by kernel_rfl
def t219:List (cn bn):=⟨219,[],[.v 0,.v 0,.v 0],[1],fun c a=>HV a.1 a.2.1 a.2.2.1⟩::t192
theorem asd:cG (cT g) t219:=dh di aLI [] (.two .o (.pu [6] .o)) (by kernel_rfl) fun c a=>by kernel_rfl
def t314:List (cn bn):=⟨314,[],[.v 0],[1],fun c a=>Np a.1⟩::t219
theorem aLJ:cG (cT g) t314:=dh di asd [] .o (by kernel_rfl) fun c a=>by kernel_rfl
def t193:List (cn bn):=⟨193,[],[.v 6],[1],fun c a=>HW a.1⟩::t314
theorem aLK:cG (cT g) t193:=dh di aLJ [] .o (by kernel_rfl) fun c a=>by kernel_rfl
def t432:List (cn bn):=⟨432,[],[.v 27,.v 1],[0],fun c a=>Wt a.1 a.2.1⟩::t193
theorem aLL:cG (cT g) t432:=dh di aLK [] (.two .o (.two (.two .o (.fe [(.s 8,.p 0)] [(.exit 0,[]),(.ret,[(.s 4,.p 0)])] .o)) .o)) (by kernel_rfl) fun c a=>by kernel_rfl
def t346:List (cn bn):=⟨346,[],[.v 27,.v 1],[1],fun c a=>Nn a.1 a.2.1⟩::t432
theorem aLM:cG (cT g) t346:=dh di aLL [] .o (by kernel_rfl) fun c a=>by kernel_rfl
def t217:List (cn bn):=⟨217,[],[.v 27],[1],fun c a=>Bc a.1⟩::t346
theorem aLN:cG (cT g) t217:=dh di aLM [] .o (by kernel_rfl) fun c a=>by kernel_rfl
def t218:List (cn bn):=⟨218,[],[.v 2],[1],fun c a=>yX a.1⟩::t217
theorem aLO:cG (cT g) t218:=dh di aLN [] (.two .o (.pc [(.normal,[(.s 2,.p 1)])] .o .o)) (by kernel_rfl) fun c a=>by kernel_rfl
def t220:List (cn bn):=⟨220,[],[.v 8],[1],fun c a=>HY a.1⟩::t218
theorem aLP:cG (cT g) t220:=dh di aLO [] (.two .o (.pc [(.normal,[]),(.ret,[(.s 2,.p 1)])] (.two .o (.pc [(.normal,[(.s 5,.p 1)])] .o (.two (.pu [2] .o) .o))) .o)) (by kernel_rfl) fun c a=>by kernel_rfl
def t221:List (cn bn):=⟨221,[],[.v 8],[1],fun c a=>Bd a.1⟩::t220
theorem aLQ:cG (cT g) t221:=dh di aLP [] (.two .o (.pu [2] .o)) (by kernel_rfl) fun c a=>by kernel_rfl
def t222:List (cn bn):=⟨222,[],[.v 6,.v 6],[0],fun c a=>tu a.1 a.2.1⟩::t221
theorem aLR:cG (cT g) t222:=dh di aLQ [] (.two .o (.two .o (.two (.two .o (.fe [(.s 5,.p 0),(.s 10,.p 0)] [(.exit 0,[(.s 5,.p 0)])] .o)) .o))) (by kernel_rfl) fun c a=>by kernel_rfl
def t122:List (cn bn):=⟨122,[],[.v 6,.v 9],[1],fun c a=>Bg a.1 a.2.1⟩::t222
theorem aLS:cG (cT g) t122:=dh di aLR [(19,1),(22,100),(46,1)] (.two .o (.two .o (.two .o (.two .o (.two (.two .o (.fe [(.s 25,.p 0),(.m 2 0,.p 0),(.m 1 0,.p 0),(.s 5,.r 100),(.m 0 0,.d)] [(.exit 0,[(.m 2 0,.p 0),(.m 1 0,.p 0)]),(.ret,[(.s 4,.c (.b0 false))])] .o)) (.pu [4] .o)))))) (by kernel_rfl) fun c a=>by kernel_rfl
def t123:List (cn bn):=⟨123,[],[.v 10],[1],fun c a=>DY a.1⟩::t122
theorem arF:cG (cT g) t123:=dh di aLS [(6,100)] (.two .o (.two .o (.two (.two .o (.fe [(.s 9,.p 0),(.s 3,.r 100),(.m 0 0,.d)] [(.exit 0,[]),(.ret,[(.s 2,.c (.b0 false))])] (.two .o (.two .o (.two (.two .o (.two (.pc [(.normal,[(.s 20,.p 1)])] .o .o) .o)) .o))))) .o))) (by kernel_rfl) fun c a=>by kernel_rfl
def t223:List (cn bn):=⟨223,[],[.v 28,.v 0],[28],fun c a=>DJ a.1 a.2.1⟩::t123
theorem aLT:cG (cT g) t223:=arF.cons (tI rfl fun H ⟨x,n,_⟩ r h=>aou ⟨by kernel_rfl,by kernel_rfl,by kernel_rfl⟩ H x n r h)
def t124:List (cn bn):=⟨124,[],[.v 6,.v 9,.v 1],[28],fun c a=>D0 a.1 a.2.1 a.2.2.1⟩::t223
theorem arK:cG (cT g) t124:=dh di aLT [(27,7)] (.two .o (.two .o (.two .o (.two (.two .o (.fe [(.s 16,.p 0),(.s 7,.r 28)] [(.exit 0,[(.s 7,.r 28)])] .o)) .o)))) (by kernel_rfl) fun c a=>by kernel_rfl
def t224:List (cn bn):=⟨224,[],[.v 0,.v 0],[1],fun c a=>kg a.1 a.2.1⟩::t124
theorem aLU:cG (cT g) t224:=dh di arK [] (.two .o (.pu [4] .o)) (by kernel_rfl) fun c a=>by kernel_rfl
def t229:List (cn bn):=⟨229,[],[.v 0,.v 0],[1],fun c a=>y1 a.1 a.2.1⟩::t224
theorem aLV:cG (cT g) t229:=dh di aLU [] (.two .o (.pu [4] .o)) (by kernel_rfl) fun c a=>by kernel_rfl
def t225:List (cn bn):=⟨225,[],[.v 29,.v 13],[1],fun c a=>D2 a.1 a.2.1⟩::t229
theorem aLW:cG (cT g) t225:=dh di aLV [] (.two .o (.two .o (.two (.two .o (.fe [(.s 5,.p 0),(.s 11,.p 0)] [(.exit 0,[]),(.ret,[(.s 4,.c (.b0 false))])] (.two .o (.two .o (.two (.two .o (.two (.pc [(.normal,[(.s 37,.p 1)])] .o .o) .o)) .o))))) .o))) (by kernel_rfl) fun c a=>by kernel_rfl
def t200:List (cn bn):=⟨200,[],[.v 9,.f [8] 1],[0],fun c a=>Wv a.1 a.2.1⟩::t225
theorem aLX:cG (cT g) t200:=dh di aLW [] (.two .o (.two (.two .o (.fe [(.s 8,.p 0)] [(.exit 0,[]),(.ret,[(.s 4,.p 0)])] .o)) .o)) (by kernel_rfl) fun c a=>by kernel_rfl
def t348:List (cn bn):=⟨348,[],[.v 9,.f [8] 1],[1],fun c a=>Nu a.1 a.2.1⟩::t200
theorem aLY:cG (cT g) t348:=dh di aLX [] .o (by kernel_rfl) fun c a=>by kernel_rfl
def t349:List (cn bn):=⟨349,[14,29],[.v 8],[1],fun c a=>H5 c.1 c.2 a.1⟩::t348
theorem aLZ:cG (cT g) t349:=dh di aLY [] (.two .o (.pc [(.normal,[(.s 4,.p 1)])] .o .o)) (by kernel_rfl) fun c a=>by kernel_rfl
def t226:List (cn bn):=⟨226,[],[.v 29,.v 14],[1],fun c a=>H6 a.1 a.2.1⟩::t349
theorem aL0:cG (cT g) t226:=dh di aLZ [] (.two .o (.pc [(.normal,[(.s 4,.p 1)])] .o .o)) (by kernel_rfl) fun c a=>by kernel_rfl
def t350:List (cn bn):=⟨350,[],[.v 12,.v 12],[1],fun c a=>Bi a.1 a.2.1⟩::t226
theorem aL1:cG (cT g) t350:=dh di aL0 [] (.two .o (.two .o (.two (.two .o (.fe [(.s 13,.p 0)] [(.exit 0,[]),(.ret,[(.s 4,.c (.b0 false))])] .o)) .o))) (by kernel_rfl) fun c a=>by kernel_rfl
def t227:List (cn bn):=⟨227,[],[.v 13,.v 0,.v 0,.v 0],[1],fun c a=>H8 a.1 a.2.1 a.2.2.1 a.2.2.2.1⟩::t350
theorem aL2:cG (cT g) t227:=dh di aL1 [(14,11)] (.two .o (.pc [(.normal,[(.s 8,.p 1)])] .o .o)) (by kernel_rfl) fun c a=>by kernel_rfl
def t125:List (cn bn):=⟨125,[],[.v 29],[1],fun c a=>H9 a.1⟩::t227
theorem arN:cG (cT g) t125:=dh di aL2 [] (.two .o (.two (.pu [23] .o) (.two (.two .o (.fe [(.s 28,.p 0)] [(.exit 0,[]),(.ret,[(.s 2,.c (.b0 false))])] (.two .o (.two .o (.two (.two .o (.pc [(.normal,[]),(.ret,[(.s 2,.c (.b0 false))])] (.two .o (.two .o (.two .o (.two (.pc [(.normal,[(.s 60,.p 1)])] .o .o) (.pc [(.normal,[(.s 61,.p 1)])] .o .o))))) (.two .o (.two (.two .o (.pc [(.normal,[(.s 6,.p 0),(.s 7,.p 0)])] .o (.pc [(.normal,[(.s 103,.p 1)])] .o .o))) .o)))) .o))))) .o))) (by kernel_rfl) fun c a=>by kernel_rfl
def t228:List (cn bn):=⟨228,[29],[.v 0],[1],fun c a=>Ia c a.1⟩::t125
theorem arw:cG (cT g) t228:=dh di arN [] (.two .o (.pu [3] .o)) (by kernel_rfl) fun c a=>by kernel_rfl
def t126:List (cn bn):=⟨126,[],[.v 29],[1],fun c a=>Ib a.1⟩::t228
theorem aL3:cG (cT g) t126:=dh di arw [(17,2)] (.two .o (.two .o (.two (.two .o (.fe [(.s 10,.p 0),(.s 3,.r 10)] [(.exit 0,[(.s 3,.r 10)]),(.ret,[(.s 2,.c (.b0 false))])] (.two .o (.two .o (.two (.two .o (.two .o (.pc [(.normal,[(.s 28,.p 1)])] .o .o))) .o))))) (.pc [(.normal,[(.s 2,.p 1)])] .o .o)))) (by kernel_rfl) fun c a=>by kernel_rfl
def t143:List (cn bn):=⟨143,[],[.v 0],[1],fun c a=>Ic a.1⟩::t126
theorem aL4:cG (cT g) t143:=dh di aL3 [] .o (by kernel_rfl) fun c a=>by kernel_rfl
def t86:List (cn bn):=⟨86,[],[.v 0,.v 0],[0],fun c a=>Ie a.1 a.2.1⟩::t143
theorem aL5:cG (cT g) t86:=dh di aL4 [] .o (by kernel_rfl) fun c a=>by kernel_rfl
def t230:List (cn bn):=⟨230,[],[.v 6,.v 6],[0],fun c a=>D7 a.1 a.2.1⟩::t86
theorem aL6:cG (cT g) t230:=dh di aL5 [] (.two .o (.two (.two .o (.fe [(.s 11,.p 0)] [(.exit 0,[]),(.ret,[(.s 4,.p 0)])] .o)) .o)) (by kernel_rfl) fun c a=>by kernel_rfl
def t135:List (cn bn):=⟨135,[],[.v 20,.f [13] 1],[0],fun c a=>Wy a.1 a.2.1⟩::t230
theorem aL7:cG (cT g) t135:=dh di aL6 [] (.two .o (.two (.two .o (.fe [(.s 8,.p 0)] [(.exit 0,[]),(.ret,[(.s 4,.p 0)])] .o)) .o)) (by kernel_rfl) fun c a=>by kernel_rfl
def t71:List (cn bn):=⟨71,[],[.v 20,.f [13] 1],[1],fun c a=>NC a.1 a.2.1⟩::t135
theorem aL8:cG (cT g) t71:=dh di aL7 [] .o (by kernel_rfl) fun c a=>by kernel_rfl
def t355:List (cn bn):=⟨355,[],[.v 6,.v 9,.v 1,.v 0],[0,6,1],fun c a=>Ea a.1 a.2.1 a.2.2.1 a.2.2.2.1⟩::t71
theorem aL9:cG (cT g) t355:=dh di aL8 [(55,0)] (.two .o (.two (.pc [(.normal,[(.s 24,.p 1)])] .o .o) (.two (.two .o (.fe [(.s 27,.p 0)] [(.exit 0,[]),(.ret,[(.s 8,.p 0),(.s 9,.r 6),(.s 10,.c (.b0 true))])] (.two .o (.two .o (.two (.two .o (.two .o (.two (.pc [(.normal,[(.s 51,.p 1)])] .o .o) (.two .o (.two (.two .o (.fe [(.s 13,.p 0),(.s 15,.p 0),(.s 14,.r 6),(.m 1 0,.d)] [(.exit 2,[(.s 14,.r 6),(.m 1 0,.d)])] .o)) .o))))) .o))))) .o))) (by kernel_rfl) fun c a=>by kernel_rfl
def t351:List (cn bn):=⟨351,[],[.v 29,.v 21],[1],fun c a=>Ij a.1 a.2.1⟩::t355
theorem aMa:cG (cT g) t351:=dh di aL9 [] (.two .o (.two .o (.two .o (.two .o (.two .o (.pc [(.normal,[(.s 51,.p 1)])] .o (.two (.pu [4] .o) (.pu [4] .o)))))))) (by kernel_rfl) fun c a=>by kernel_rfl
def t352:List (cn bn):=⟨352,[29],[.v 13],[1],fun c a=>Ik c a.1⟩::t351
theorem aMb:cG (cT g) t352:=dh di aMa [] .o (by kernel_rfl) fun c a=>by kernel_rfl
def t231:List (cn bn):=⟨231,[],[.v 29,.v 23],[1],fun c a=>Il a.1 a.2.1⟩::t352
theorem aMc:cG (cT g) t231:=dh di aMb [] (.two .o (.two .o (.two (.two .o (.fe [(.s 5,.p 0),(.s 13,.p 0)] [(.exit 0,[]),(.ret,[(.s 4,.c (.b0 false))])] (.two .o (.two .o (.two (.two .o (.two (.pc [(.normal,[(.s 39,.p 1)])] .o .o) .o)) .o))))) (.two .o (.two (.two .o (.fe [(.s 5,.p 0),(.s 46,.p 0)] [(.exit 2,[]),(.ret,[(.s 4,.c (.b0 false))])] (.two .o (.two .o (.two (.two .o (.two (.pc [(.normal,[(.s 59,.p 1)])] .o .o) .o)) .o))))) (.pc [(.normal,[(.s 4,.p 1)])] .o .o)))))) (by kernel_rfl) fun c a=>by kernel_rfl
def t127:List (cn bn):=⟨127,[],[.v 29],[1],fun c a=>Iq a.1⟩::t231
theorem ar0:cG (cT g) t127:=dh di aMc [] (.two .o (.two .o (.two (.two .o (.fe [(.s 18,.p 0)] [(.exit 0,[]),(.ret,[(.s 2,.c (.b0 false))])] (.two .o (.two .o (.two (.two .o (.two (.pc [(.normal,[(.s 45,.p 1)])] .o .o) (.two (.two .o (.fe [(.s 55,.p 0)] [(.exit 2,[]),(.ret,[(.s 2,.c (.b0 false))])] (.two .o (.two .o (.two (.two .o (.two .o (.pc [(.normal,[(.s 86,.p 1)])] .o .o))) .o))))) (.pc [(.normal,[]),(.ret,[(.s 2,.c (.b0 false))])] (.two .o (.two (.two .o (.pc [(.normal,[(.s 116,.p 1)])] .o .o)) .o)) .o)))) .o))))) .o))) (by kernel_rfl) fun c a=>by kernel_rfl
def t128:List (cn bn):=⟨128,[],[.v 29],[1],fun c a=>Wq a.1⟩::t127
theorem ar1:cG (cT g) t128:=ar0.cons (tI rfl fun H ⟨j,_⟩ r h=>by
 cases h;exact Dy (spec:=BZ) (by kernel_rfl) (by simp[Jm,bW,bs,WL]) (aoX j) H)
def t63:List (cn bn):=⟨63,[],[.v 26],[1],fun c a=>ou a.1⟩::t128
theorem ar4:cG (cT g) t63:=dh di ar1 [] (.two .o (.two (.pc [(.normal,[(.s 21,.p 1)])] .o .o) (.two .lt (.pc [(.normal,[(.s 2,.p 1)])] .o .o)))) (by kernel_rfl) fun c a=>by kernel_rfl
def t79:List (cn bn):=⟨79,[],[.v 6,.v 9,.v 1],[0],fun c a=>ayG a.1 a.2.1 a.2.2.1⟩::t63
theorem Qy:cG (cT g) t79:=dh di ar4 [] .o (by kernel_rfl) fun c a=>by kernel_rfl
def t47:List (cn bn):=⟨47,[],[.v 26,.v 6],[1],fun c a=>ayH a.1 a.2.1⟩::t79
theorem aMd:cG (cT g) t47:=dh di Qy [] (.two .o (.pc [(.normal,[(.s 4,.p 1)])] .o .o)) (by kernel_rfl) fun c a=>by kernel_rfl
def t80:List (cn bn):=⟨80,[],[.v 15,.f [14] 1],[0],fun c a=>aDM a.1 a.2.1⟩::t47
theorem Qu:cG (cT g) t80:=dh di aMd [] (.two .o (.two (.two .o (.fe [(.s 8,.p 0)] [(.exit 0,[]),(.ret,[(.s 4,.p 0)])] .o)) .o)) (by kernel_rfl) fun c a=>by kernel_rfl
def t48:List (cn bn):=⟨48,[],[.v 15,.f [14] 1],[1],fun c a=>ayI a.1 a.2.1⟩::t80
theorem aMe:cG (cT g) t48:=dh di Qu [] .o (by kernel_rfl) fun c a=>by kernel_rfl
def t81:List (cn bn):=⟨81,[],[.v 14,.v 0],[1],fun c a=>avN a.1 a.2.1⟩::t48
theorem J9:cG (cT g) t81:=dh di aMe [] (.two .o (.pu [4] .o)) (by kernel_rfl) fun c a=>by kernel_rfl
def t139:List (cn bn):=⟨139,[6,14],[.v 0,.v 0],[1],fun c a=>awj c.1 c.2 a.1 a.2.1⟩::t81
theorem aMf:cG (cT g) t139:=dh di J9 [] .o (by kernel_rfl) fun c a=>by kernel_rfl
def t246:List (cn bn):=⟨246,[],[.v 6,.v 0],[0],fun c a=>aDN a.1 a.2.1⟩::t139
theorem aMg:cG (cT g) t246:=dh di aMf [] (.two .o (.two (.two .o (.fe [(.s 8,.p 0)] [(.exit 0,[]),(.ret,[(.s 4,.p 0)])] .o)) .o)) (by kernel_rfl) fun c a=>by kernel_rfl
def t140:List (cn bn):=⟨140,[],[.v 6,.v 0],[1],fun c a=>axp a.1 a.2.1⟩::t246
theorem Qz:cG (cT g) t140:=dh di aMg [] .o (by kernel_rfl) fun c a=>by kernel_rfl
def t82:List (cn bn):=⟨82,[],[.v 14,.v 6],[6],fun c a=>axr a.1 a.2.1⟩::t140
theorem Qw:cG (cT g) t82:=aDT di Qz [(26,0),(27,6),(76,0),(78,6)] [(24,0,8)] aEQ (.two .o (.two .o (.two .o (.two .o (.two (.two .o (.fe [(.s 21,.p 0),(.s 6,.r 30)] [(.exit 0,[(.s 6,.r 30)])] .o)) (.two (.fe [(.s 6,.r 30),(.m 2 0,.d)] [(.exit 2,[]),(.ret,[(.s 4,.p 6)])] (.two .o (.two .o (.two (.two .o (.fe [(.s 35,.p 0),(.s 8,.r 30)] [(.exit 4,[(.s 8,.r 30)]),(.ret,[(.s 4,.p 6)])] (.two .o (.two .o (.two (.two .o (.two .o (.two .o (.two .o (.fe [(.s 12,.p 0),(.s 8,.r 30),(.m 4 0,.d)] [(.exit 6,[(.s 8,.r 30),(.m 4 0,.d)])] (.two .o (.two (.pc [(.normal,[(.s 71,.p 1)])] .o .o) .o))))))) .o))))) .o)))) .o)))))) (by kernel_rfl) fun c a=>by kernel_rfl
def t83:List (cn bn):=⟨83,[],[.v 0,.v 0,.v 0],[1],fun c a=>axs a.1 a.2.1 a.2.2.1⟩::t82
theorem Qv:cG (cT g) t83:=dh di Qw [] (.two .o (.two .o (.pu [6] .o))) (by kernel_rfl) fun c a=>by kernel_rfl
def t50:List (cn bn):=⟨50,[],[.v 14,.v 6],[1],fun c a=>H3 a.1 a.2.1⟩::t83
theorem aMh:cG (cT g) t50:=dh di Qv [] (.two .o (.two (.two .o (.two (.pc [(.normal,[(.s 4,.p 1)])] .o .o) .o)) (.two .o (.two (.two .o (.fe [(.s 5,.p 0),(.s 6,.p 0),(.s 27,.p 0)] [(.exit 0,[(.s 5,.p 0),(.s 6,.p 0)]),(.ret,[(.s 4,.c (.b0 false))])] (.two .o (.two .o (.two (.two .o (.two (.pu [40] .o) .o)) .o))))) (.pc [(.normal,[(.s 4,.p 1)])] .o .o))))) (by kernel_rfl) fun c a=>by kernel_rfl
def t49:List (cn bn):=⟨49,[6],[.v 14],[1],fun c a=>axt c a.1⟩::t50
theorem aMi:cG (cT g) t49:=dh di aMh [] .o (by kernel_rfl) fun c a=>by kernel_rfl
def t21:List (cn bn):=⟨21,[],[.v 26,.v 6],[1],fun c a=>axu a.1 a.2.1⟩::t49
theorem arV:cG (cT g) t21:=dh di aMi [] (.two .o (.pc [(.normal,[(.s 4,.p 1)])] .o .o)) (by kernel_rfl) fun c a=>by kernel_rfl
def t27:List (cn bn):=⟨27,[],[.v 6,.v 19],[6],fun c a=>axy a.1 a.2.1⟩::t21
theorem arC:cG (cT g) t27:=aDT di arV [] [(24,0,8)] aEQ (.two .o (.two .o (.two (.two .o (.fe [(.s 12,.p 0),(.s 5,.r 6),(.m 0 0,.d)] [(.exit 0,[(.s 5,.r 6),(.m 0 0,.d)])] (.two .o (.two .o (.two (.two .o (.pu [25] .o)) .o))))) .o))) (by kernel_rfl) fun c a=>by kernel_rfl
def t40:List (cn bn):=⟨40,[],[.v 26,.v 23,.v 6],[31],fun c a=>avP a.1 a.2.1 a.2.2.1⟩::t27
theorem asr:cG (cT g) t40:=dh di arC [] (.two .o (.two (.two .o (.fe [(.s 15,.p 0)] [(.exit 0,[]),(.ret,[(.m 2 1,.p 0),(.m 2 0,.c (.int .i64 1))])] .o)) (.two .o (.two (.two .o (.fe [(.s 35,.p 0)] [(.exit 2,[]),(.ret,[(.m 2 1,.p 0),(.m 2 0,.c (.int .i64 2))])] .o)) .o)))) (by kernel_rfl) fun c a=>by kernel_rfl
def t357:List (cn bn):=⟨357,[],[.v 6],[1],fun c a=>aws a.1⟩::t40
theorem aMn:cG (cT g) t357:=dh di asr [] (.two .o (.two (.two .o (.fe [(.s 3,.p 0)] [(.exit 0,[]),(.ret,[(.s 2,.c (.b0 false))])] (.two .o (.two (.pc [(.normal,[(.s 21,.p 1)])] .o .o) .o)))) .o)) (by kernel_rfl) fun c a=>by kernel_rfl
def t358:List (cn bn):=⟨358,[],[.v 6,.v 6],[0],fun c a=>avk a.1 a.2.1⟩::t357
theorem aMo:cG (cT g) t358:=dh di aMn [] (.two .o (.two (.pc [(.normal,[(.s 14,.p 1)])] .o .o) (.two .o (.two (.two .o (.fe [(.s 5,.p 0),(.s 6,.p 0)] [(.exit 0,[(.s 5,.p 0)]),(.ret,[(.s 4,.c (.int .i64 0))])] (.two .o (.two (.two (.pc [(.normal,[(.s 34,.p 1)])] .o .o) .o) .o)))) .o)))) (by kernel_rfl) fun c a=>by kernel_rfl
def t549:List (cn bn):=⟨549,[],[.v 3],[1],fun c a=>awv a.1⟩::t358
theorem aMp:cG (cT g) t549:=dh di aMo [] (.two .o (.pu [2] .o)) (by kernel_rfl) fun c a=>by kernel_rfl
def t530:List (cn bn):=⟨530,[],[.v 2,.v 0],[0],fun c a=>awx a.1 a.2.1⟩::t549
theorem aMq:cG (cT g) t530:=dh di aMp [] (.two .o (.two (.fe [(.s 1,.p 0)] [(.exit 0,[(.s 1,.p 0)])] (.two (.pc [(.normal,[(.s 20,.p 1)])] .o .o) (.two .o (.two (.fe [(.s 1,.p 0)] [(.exit 2,[(.s 1,.p 0)])] (.two (.pc [(.normal,[(.s 34,.p 1)])] .o .o) .o)) .o)))) .o)) (by kernel_rfl) fun c a=>by kernel_rfl
def t361:List (cn bn):=⟨361,[],[.v 10,.v 2],[1],fun c a=>awy a.1 a.2.1⟩::t530
theorem aMr:cG (cT g) t361:=dh di aMq [] (.two .o (.two (.two .o (.fe [(.s 5,.p 0)] [(.exit 0,[]),(.ret,[(.s 4,.c (.b0 true))])] .o)) .o)) (by kernel_rfl) fun c a=>by kernel_rfl
def t550:List (cn bn):=⟨550,[],[.v 3],[1],fun c a=>avR a.1⟩::t361
theorem aMs:cG (cT g) t550:=dh di aMr [] (.two .o (.pu [2] .o)) (by kernel_rfl) fun c a=>by kernel_rfl
def t551:List (cn bn):=⟨551,[],[.v 3],[1],fun c a=>avv a.1⟩::t550
theorem aMt:cG (cT g) t551:=dh di aMs [] (.two .o (.pu [2] .o)) (by kernel_rfl) fun c a=>by kernel_rfl
def t552:List (cn bn):=⟨552,[],[],[10],fun c a=>axA⟩::t551
theorem aMu:cG (cT g) t552:=dh di aMt [(1,2)] .o (by kernel_rfl) fun c a=>by kernel_rfl
def t564:List (cn bn):=⟨564,[],[],[10],fun c a=>axB⟩::t552
theorem aMv:cG (cT g) t564:=dh di aMu [(1,2)] .o (by kernel_rfl) fun c a=>by kernel_rfl
def t553:List (cn bn):=⟨553,[],[.v 2,.v 0],[0],fun c a=>awA a.1 a.2.1⟩::t564
theorem aMw:cG (cT g) t553:=dh di aMv [] (.two .o (.two .o (.two (.two .o (.fe [(.s 6,.p 0)] [(.exit 0,[]),(.ret,[(.s 4,.p 0)])] (.two .o (.two (.two .o (.pc [(.normal,[(.s 38,.p 1)])] .o .o)) .o)))) .o))) (by kernel_rfl) fun c a=>by kernel_rfl
def t531:List (cn bn):=⟨531,[],[.v 2,.v 0],[0,0],fun c a=>axE a.1 a.2.1⟩::t553
theorem aMx:cG (cT g) t531:=dh di aMw [] (.two .o (.two .o (.two (.two .o (.two (.two (.fe [(.s 6,.p 0)] [(.exit 0,[(.s 6,.p 0)])] (.two (.pc [(.normal,[(.s 34,.p 1)])] .o .o) .o)) .o) .o)) (.two (.two .o (.two (.two (.fe [(.s 6,.p 0)] [(.exit 2,[(.s 6,.p 0)])] (.two (.pc [(.normal,[(.s 58,.p 1)])] .o .o) .o)) .o) .o)) (.two .o (.two (.fe [(.s 6,.p 0)] [(.exit 4,[(.s 6,.p 0)])] (.two (.pc [(.normal,[(.s 106,.p 1)])] .o .o) .o)) .o)))))) (by kernel_rfl) fun c a=>by kernel_rfl
def t499:List (cn bn):=⟨499,[],[.v 2],[33,0],fun c a=>ayQ a.1⟩::t531
theorem aMy:cG (cT g) t499:=dh di aMx [(12,32),(34,32),(44,32)] (.two .o (.two .o (.two .o (.two .o (.two (.fe [(.s 5,.p 0),(.s 4,.r 33)] [(.exit 0,[(.s 5,.p 0),(.s 4,.r 33)])] .o) .o))))) (by kernel_rfl) fun c a=>by kernel_rfl
def t442:List (cn bn):=⟨442,[],[.v 2],[0],fun c a=>axF a.1⟩::t499
theorem aMz:cG (cT g) t442:=dh di aMy [] (.two .o (.two .o (.two (.pc [(.normal,[(.s 32,.p 1)])] .o .o) .o))) (by kernel_rfl) fun c a=>by kernel_rfl
def t359:List (cn bn):=⟨359,[],[.v 2],[1],fun c a=>ajb a.1⟩::t442
theorem aMA:cG (cT g) t359:=dh di aMz [] (.two .o (.pc [(.normal,[(.s 2,.p 1)])] .o .o)) (by kernel_rfl) fun c a=>by kernel_rfl
def t360:List (cn bn):=⟨360,[],[.v 0],[1],fun c a=>avx a.1⟩::t359
theorem aMB:cG (cT g) t360:=dh di aMA [] (.two .o (.pu [2] .o)) (by kernel_rfl) fun c a=>by kernel_rfl
def t237:List (cn bn):=⟨237,[],[.v 6,.v 9],[1],fun c a=>avU a.1 a.2.1⟩::t360
theorem aMC:cG (cT g) t237:=dh di aMB [] (.two .o (.two (.pc [(.normal,[(.s 23,.p 1)])] .o .o) (.two .o (.two (.two .o (.fe [(.s 5,.p 0),(.s 6,.p 0),(.s 7,.p 0)] [(.exit 0,[(.s 5,.p 0),(.s 6,.p 0)]),(.ret,[(.s 4,.c (.b0 false))])] (.two .o (.two (.two .o (.two (.two .o (.fe [(.s 9,.p 0)] [(.exit 2,[]),(.ret,[(.s 4,.c (.b0 false))])] .o)) (.two .o (.two (.pc [(.normal,[(.s 68,.p 1)])] .o .o) (.two (.pu [87] .o) (.two (.pu [112] .o) .o)))))) .o)))) (.pu [4] .o))))) (by kernel_rfl) fun c a=>by kernel_rfl
def t238:List (cn bn):=⟨238,[],[.v 10],[1],fun c a=>awE a.1⟩::t237
theorem aMD:cG (cT g) t238:=dh di aMC [] (.two .o (.two (.two .o (.fe [(.s 3,.p 0)] [(.exit 0,[]),(.ret,[(.s 2,.c (.b0 false))])] (.two .o (.two (.pc [(.normal,[(.s 25,.p 1)])] .o .o) .o)))) .o)) (by kernel_rfl) fun c a=>by kernel_rfl
def t242:List (cn bn):=⟨242,[],[.v 6,.v 9,.v 1],[28],fun c a=>axH a.1 a.2.1 a.2.2.1⟩::t238
theorem aME:cG (cT g) t242:=dh di aMD [(10,7),(49,7)] (.two .o (.two .o (.two .o (.two (.two .o (.fe [(.s 8,.p 0),(.s 7,.r 28)] [(.exit 0,[(.s 7,.r 28)])] (.two .o (.two (.two .o (.fe [(.s 9,.p 0),(.s 7,.r 28),(.m 0 0,.d)] [(.exit 2,[(.s 7,.r 28),(.m 0 0,.d)])] (.two (.pc [(.normal,[(.s 40,.p 1)])] .o .o) .o))) .o)))) .o)))) (by kernel_rfl) fun c a=>by kernel_rfl
def t137:List (cn bn):=⟨137,[],[.v 26],[28],fun c a=>avz a.1⟩::t242
theorem aMF:cG (cT g) t137:=dh di aME [] .o (by kernel_rfl) fun c a=>by kernel_rfl
def t443:List (cn bn):=⟨443,[],[.v 12,.v 12],[1],fun c a=>ayR a.1 a.2.1⟩::t137
theorem aMG:cG (cT g) t443:=dh di aMF [] (.two .o (.two .o (.two (.two .o (.fe [(.s 5,.p 0)] [(.exit 0,[]),(.ret,[(.s 4,.c (.b0 false))])] .o)) .o))) (by kernel_rfl) fun c a=>by kernel_rfl
def t362:List (cn bn):=⟨362,[],[.v 13,.v 13],[1],fun c a=>awF a.1 a.2.1⟩::t443
theorem aMH:cG (cT g) t362:=dh di aMG [] (.two .o (.pc [(.normal,[(.s 4,.p 1)])] .o .o)) (by kernel_rfl) fun c a=>by kernel_rfl
def t365:List (cn bn):=⟨365,[],[.v 0,.v 0],[1],fun c a=>au9 a.1 a.2.1⟩::t362
theorem aMI:cG (cT g) t365:=dh di aMH [] (.two .o (.pu [4] .o)) (by kernel_rfl) fun c a=>by kernel_rfl
def t363:List (cn bn):=⟨363,[],[.v 13,.v 0],[1],fun c a=>awH a.1 a.2.1⟩::t365
theorem aMJ:cG (cT g) t363:=dh di aMI [] (.two .o (.two (.two .o (.fe [(.s 5,.p 0)] [(.exit 0,[]),(.ret,[(.s 4,.c (.b0 false))])] (.two .o (.two (.two .o (.pc [(.normal,[(.s 54,.p 1)])] .o .o)) .o)))) .o)) (by kernel_rfl) fun c a=>by kernel_rfl
def t364:List (cn bn):=⟨364,[],[.v 26,.v 14],[1],fun c a=>axJ a.1 a.2.1⟩::t363
theorem aMK:cG (cT g) t364:=dh di aMJ [] (.two .o (.two (.pu [17] .o) (.two (.two .o (.fe [(.s 5,.p 0)] [(.exit 0,[]),(.ret,[(.s 4,.c (.b0 true))])] (.two .o (.two (.two .o (.pc [(.normal,[(.s 69,.p 1)])] .o .o)) .o)))) .o))) (by kernel_rfl) fun c a=>by kernel_rfl
def t239:List (cn bn):=⟨239,[],[.v 26],[1],fun c a=>axK a.1⟩::t364
theorem aML:cG (cT g) t239:=dh di aMK [(33,11),(43,11)] (.two .o (.two .o (.two (.pu [24] .o) (.two (.two .o (.fe [(.s 4,.p 0)] [(.exit 0,[]),(.ret,[(.s 2,.c (.b0 false))])] (.two .o (.two (.two .o (.two .o (.pc [(.normal,[(.s 72,.p 1)])] .o .o))) .o)))) (.two (.two .o (.fe [(.s 7,.p 0)] [(.exit 2,[]),(.ret,[(.s 2,.c (.b0 false))])] (.two .o (.two (.two .o (.two (.pu [95] .o) (.pc [(.normal,[(.s 9,.p 1)])] .o (.pc [(.normal,[(.s 135,.p 1)])] .o .o)))) .o)))) .o))))) (by kernel_rfl) fun c a=>by kernel_rfl
def t366:List (cn bn):=⟨366,[],[.v 6,.v 6],[1],fun c a=>awL a.1 a.2.1⟩::t239
theorem aMM:cG (cT g) t366:=dh di aML [] (.two .o (.two (.two .o (.fe [(.s 5,.p 0)] [(.exit 0,[]),(.ret,[(.s 4,.p 1)])] (.two (.pu [15] .o) .o))) .o)) (by kernel_rfl) fun c a=>by kernel_rfl
def t500:List (cn bn):=⟨500,[],[.v 6,.v 6,.v 0],[6],fun c a=>awM a.1 a.2.1 a.2.2.1⟩::t366
theorem aMN:cG (cT g) t500:=dh di aMM [(11,0)] (.two .o (.two .o (.two (.two .o (.fe [(.s 2,.p 0),(.s 8,.p 0),(.s 7,.r 6),(.m 0 0,.d)] [(.exit 0,[(.s 7,.r 6),(.m 0 0,.d)])] .o)) .o))) (by kernel_rfl) fun c a=>by kernel_rfl
def t444:List (cn bn):=⟨444,[],[.v 6,.v 9,.v 1,.v 0],[0,6,1],fun c a=>axL a.1 a.2.1 a.2.2.1 a.2.2.2.1⟩::t500
theorem aMO:cG (cT g) t444:=dh di aMN [] (.two .o (.two .o (.two (.two .o (.fe [(.s 11,.p 0)] [(.exit 0,[]),(.ret,[(.s 8,.p 0),(.s 9,.p 6),(.s 10,.c (.b0 true))])] (.two .o (.two (.two .o (.pc [(.normal,[(.s 56,.p 1)])] .o .o)) .o)))) .o))) (by kernel_rfl) fun c a=>by kernel_rfl
def t445:List (cn bn):=⟨445,[],[.v 0],[1],fun c a=>axM a.1⟩::t444
theorem aMP:cG (cT g) t445:=dh di aMO [] (.two .o (.pu [2] .o)) (by kernel_rfl) fun c a=>by kernel_rfl
def t367:List (cn bn):=⟨367,[],[.v 26,.v 23],[1],fun c a=>axP a.1 a.2.1⟩::t445
theorem aMQ:cG (cT g) t367:=dh di aMP [] (.two .o (.two .o (.two (.two .o (.fe [(.s 6,.p 0)] [(.exit 0,[]),(.ret,[(.s 4,.c (.b0 false))])] (.two .o (.two (.two .o (.pc [(.normal,[(.s 65,.p 1)])] .o .o)) .o)))) (.two (.two .o (.fe [(.s 8,.p 0)] [(.exit 2,[]),(.ret,[(.s 4,.c (.b0 false))])] .o)) (.two (.two .o (.fe [(.s 9,.p 0)] [(.exit 4,[]),(.ret,[(.s 4,.c (.b0 false))])] (.two .o (.two (.two .o (.two .o (.two (.pc [(.normal,[(.s 121,.p 1)])] .o .o) (.two .o (.two (.pc [(.normal,[(.s 144,.p 1)])] .o .o) (.pc [(.normal,[(.s 169,.p 1)])] .o .o)))))) .o)))) (.pu [4] .o)))))) (by kernel_rfl) fun c a=>by kernel_rfl
def t240:List (cn bn):=⟨240,[],[.v 26],[1],fun c a=>axS a.1⟩::t367
theorem aMR:cG (cT g) t240:=dh di aMQ [(12,2),(28,2)] (.two .o (.two .o (.two (.two .o (.fe [(.s 4,.p 0),(.s 3,.r 10)] [(.exit 0,[(.s 3,.r 10)]),(.ret,[(.s 2,.c (.b0 false))])] (.two .o (.two (.two .o (.two .o (.two (.two .o (.fe [(.s 6,.p 0)] [(.exit 2,[]),(.ret,[(.s 2,.c (.b0 false))])] (.two .o (.two (.pc [(.normal,[(.s 53,.p 1)])] .o .o) .o)))) .o))) .o)))) (.two (.pc [(.normal,[(.s 72,.p 1)])] .o .o) (.two (.two .o (.fe [(.s 7,.p 0)] [(.exit 4,[]),(.ret,[(.s 2,.c (.b0 false))])] (.two .o (.two (.two .o (.two (.pc [(.normal,[(.s 109,.p 1)])] .o .o) (.two (.two .o (.fe [(.s 9,.p 0)] [(.exit 6,[]),(.ret,[(.s 2,.c (.b0 false))])] (.two .o (.two (.two .o (.pc [(.normal,[(.s 162,.p 1)])] .o .o)) .o)))) (.pc [(.normal,[]),(.ret,[(.s 2,.c (.b0 false))])] (.two .o (.two (.two .o (.pc [(.normal,[(.s 190,.p 1)])] .o .o)) .o)) .o)))) .o)))) .o))))) (by kernel_rfl) fun c a=>by kernel_rfl
def t368:List (cn bn):=⟨368,[],[.v 26,.v 0,.v 0,.v 0],[1],fun c a=>axT a.1 a.2.1 a.2.2.1 a.2.2.2.1⟩::t240
theorem aMS:cG (cT g) t368:=aDU di aMR (X:=Model × Int × Int × Int) (fun g p=>auQ (fun c6 cb dR gR=>g (c6,cb,dR,gR)) p.1 p.2.1 p.2.2.1 p.2.2.2) (fun _ a=>(a.1,a.2.1,a.2.2.1,a.2.2.2.1)) (fun _ _=>rfl) [] (.two .o (.two .o (.two (.two .o (.fe [(.s 9,.p 0)] [(.exit 0,[]),(.ret,[(.s 8,.c (.b0 true))])] (.two (.pu [21] .o) (.two (.pc [(.normal,[(.s 44,.p 1)])] .o .o) .o)))) .o))) (by kernel_rfl) fun g c a=>by kernel_rfl
def t241:List (cn bn):=⟨241,[],[.v 26],[1],fun c a=>axW a.1⟩::t368
theorem aMT:cG (cT g) t241:=dh di aMS [] (.two .o (.two .o (.two (.two .o (.fe [(.s 3,.p 0)] [(.exit 0,[]),(.ret,[(.s 2,.c (.b0 false))])] (.two .o (.two (.two .o (.two (.pu [54] .o) (.two .lt (.pc [(.normal,[(.s 106,.p 1)])] .o .o)))) .o)))) (.two (.two .o (.fe [(.s 7,.p 0)] [(.exit 2,[]),(.ret,[(.s 2,.c (.b0 false))])] .o)) .o)))) (by kernel_rfl) fun c a=>by kernel_rfl
def t136:List (cn bn):=⟨136,[],[.v 26],[1],fun c a=>avV a.1⟩::t241
theorem aMU:cG (cT g) t136:=dh di aMT [] (.two .o (.two (.pc [(.normal,[(.s 20,.p 1)])] .o .o) (.pc [(.normal,[(.s 2,.p 1)])] .o .o))) (by kernel_rfl) fun c a=>by kernel_rfl
def t75:List (cn bn):=⟨75,[],[.v 26],[28],fun c a=>avW a.1⟩::t136
theorem aMV:cG (cT g) t75:=dh di aMU [] .o (by kernel_rfl) fun c a=>by kernel_rfl
def t73:List (cn bn):=⟨73,[],[.v 26,.v 6],[1],fun c a=>ayY a.1 a.2.1⟩::t75
theorem aMW:cG (cT g) t73:=dh di aMV [] (.two .o (.pc [(.normal,[(.s 4,.p 1)])] .o .o)) (by kernel_rfl) fun c a=>by kernel_rfl
def t243:List (cn bn):=⟨243,[],[.v 14,.v 0],[1],fun c a=>avX a.1 a.2.1⟩::t73
theorem aMX:cG (cT g) t243:=dh di aMW [] (.two .o (.two (.two .o (.two (.pu [4] .o) .o)) (.two (.two .o (.fe [(.s 5,.p 0)] [(.exit 0,[]),(.ret,[(.s 4,.c (.b0 false))])] (.two .o (.two (.pc [(.normal,[(.s 60,.p 1)])] .o .o) .o)))) .o))) (by kernel_rfl) fun c a=>by kernel_rfl
def t446:List (cn bn):=⟨446,[],[.v 14,.v 6,.v 0,.v 0],[1],fun c a=>awU a.1 a.2.1 a.2.2.1 a.2.2.2.1⟩::t243
theorem aMY:cG (cT g) t446:=dh di aMX [] .o (by kernel_rfl) fun c a=>by kernel_rfl
def t447:List (cn bn):=⟨447,[],[.v 6,.v 0],[1],fun c a=>axY a.1 a.2.1⟩::t446
theorem aMZ:cG (cT g) t447:=dh di aMY [] (.two .o (.two (.two .o (.fe [(.s 5,.p 0)] [(.exit 0,[]),(.ret,[(.s 4,.c (.b0 true))])] .o)) .o)) (by kernel_rfl) fun c a=>by kernel_rfl
def t369:List (cn bn):=⟨369,[],[.v 14,.v 6,.v 6,.v 0],[30],fun c a=>axZ a.1 a.2.1 a.2.2.1 a.2.2.2.1⟩::t447
theorem aM0:cG (cT g) t369:=aDU di aMZ (X:=Constraint × (ak Int) × (ak Int) × Int) (fun g p=>avY (fun c6 cb dR gR=>g (c6,cb,dR,gR)) p.1 p.2.1 p.2.2.1 p.2.2.2) (fun _ a=>(a.1,a.2.1,a.2.2.1,a.2.2.2.1)) (fun _ _=>rfl) [(30,6),(31,6),(56,0),(60,0),(63,0)] (.two .o (.two .o (.two .o (.two .o (.two (.two .o (.fe [(.s 11,.p 0),(.s 10,.r 30)] [(.exit 0,[(.s 10,.r 30)])] (.two .o (.two (.two (.pc [(.normal,[(.s 52,.p 1)])] .o .o) (.md 9)) .o)))) .o))))) (by kernel_rfl) fun g c a=>by kernel_rfl
def t244:List (cn bn):=⟨244,[],[.v 14,.v 6],[6],fun c a=>ax0 a.1 a.2.1⟩::t369
theorem aM1:cG (cT g) t244:=dh di aM0 [(33,0)] (.two .o (.two (.pc [(.normal,[(.s 17,.p 1)])] .o .o) (.two (.two .o (.fe [(.s 5,.p 0)] [(.exit 0,[]),(.ret,[(.s 4,.p 6)])] (.two .o (.two (.two .o (.fe [(.s 6,.p 0)] [(.exit 2,[]),(.ret,[(.s 4,.p 6)])] .o)) .o)))) .o))) (by kernel_rfl) fun c a=>by kernel_rfl
def t245:List (cn bn):=⟨245,[],[.v 13,.v 6],[1],fun c a=>ayZ a.1 a.2.1⟩::t244
theorem aM2:cG (cT g) t245:=dh di aM1 [] (.two .o (.two .o (.two (.two .o (.fe [(.s 5,.p 0),(.s 6,.p 0),(.s 7,.p 0)] [(.exit 0,[(.s 5,.p 0),(.s 6,.p 0)])] .o)) (.two .o (.two .o (.pu [4] .o)))))) (by kernel_rfl) fun c a=>by kernel_rfl
def t138:List (cn bn):=⟨138,[],[.v 14,.v 6],[1],fun c a=>ax1 a.1 a.2.1⟩::t245
theorem aM3:cG (cT g) t138:=dh di aM2 [] .o (by kernel_rfl) fun c a=>by kernel_rfl
def t78:List (cn bn):=⟨78,[],[.v 14,.v 6],[1],fun c a=>avZ a.1 a.2.1⟩::t138
theorem Qt:cG (cT g) t78:=dh di aM3 [] .o (by kernel_rfl) fun c a=>by kernel_rfl
def t74:List (cn bn):=⟨74,[],[.v 26,.v 6],[1],fun c a=>ax3 a.1 a.2.1⟩::t78
theorem aM4:cG (cT g) t74:=dh di Qt [] (.two .o (.two (.two .o (.fe [(.s 5,.p 0)] [(.exit 0,[]),(.ret,[(.s 4,.c (.b0 false))])] .o)) .o)) (by kernel_rfl) fun c a=>by kernel_rfl
def t41:List (cn bn):=⟨41,[],[.v 26,.v 6],[1],fun c a=>ax4 a.1 a.2.1⟩::t74
theorem aM5:cG (cT g) t41:=dh di aM4 [] (.two .o (.pc [(.normal,[(.s 4,.p 1)])] .o .o)) (by kernel_rfl) fun c a=>by kernel_rfl
def t76:List (cn bn):=⟨76,[],[.v 13,.v 6],[0],fun c a=>awY a.1 a.2.1⟩::t41
theorem aM7:cG (cT g) t76:=dh di aM5 [] (.two .o (.two .o (.two (.two .o (.fe [(.s 5,.p 0),(.s 6,.p 0)] [(.exit 0,[(.s 5,.p 0)])] .o)) .o))) (by kernel_rfl) fun c a=>by kernel_rfl
def t77:List (cn bn):=⟨77,[],[.v 6,.v 19],[6],fun c a=>ax9 a.1 a.2.1⟩::t76
theorem QA:cG (cT g) t77:=dh di aM7 [(8,0)] (.two .o (.two .o (.two (.two .o (.fe [(.s 6,.p 0),(.s 5,.r 6),(.m 0 0,.d)] [(.exit 0,[(.s 5,.r 6),(.m 0 0,.d)])] (.two .o (.two (.two .o (.pu [29] .o)) .o)))) .o))) (by kernel_rfl) fun c a=>by kernel_rfl
def t43:List (cn bn):=⟨43,[],[.v 26,.v 23,.v 6],[31],fun c a=>aya a.1 a.2.1 a.2.2.1⟩::t77
theorem aM8:cG (cT g) t43:=dh di QA [] (.two .o (.two (.two .o (.fe [(.s 7,.p 0)] [(.exit 0,[]),(.ret,[(.m 2 1,.p 0),(.m 2 0,.c (.int .i64 1))])] .o)) (.two .o (.two (.two .o (.fe [(.s 9,.p 0)] [(.exit 2,[]),(.ret,[(.m 2 1,.p 0),(.m 2 0,.c (.int .i64 2))])] .o)) .o)))) (by kernel_rfl) fun c a=>by kernel_rfl
def t44:List (cn bn):=⟨44,[26],[.v 0],[1],fun c a=>tV c a.1⟩::t43
theorem FA:cG (cT g) t44:=dh di aM8 [] (.two .o (.pu [3] .o)) (by kernel_rfl) fun c a=>by kernel_rfl
def t45:List (cn bn):=⟨45,[],[.v 26,.v 0,.v 6],[6,31],fun c a=>qq a.1 a.2.1 a.2.2.1⟩::t44
theorem FB:cG (cT g) t45:=aDT di FA [] [(24,0,8)] aEQ (.two .o (.two .o (.two .o (.two (.two .o (.two (.two (.md 3) .o) .o)) .o)))) (by kernel_rfl) fun c a=>by kernel_rfl
def t17:List (cn bn):=⟨17,[],[.v 26,.v 6,.v 6],[6,34,0],fun c a=>rn a.1 a.2.1 a.2.2.1⟩::t45
theorem FC:cG (cT g) t17:=aDT di FB [(34,0),(40,31)] [(24,0,8)] aEQ (.two .o (.two .o (.two .o (.two .o (.two .o (.two (.two .o (.pl .o (.fe [(.s 9,.p 6),(.s 26,.p 0),(.s 10,.r 34),(.m 3 0,.d)] [(.exit 0,[(.s 9,.p 6),(.s 10,.r 34),(.m 3 0,.d)])] .o))) .o)))))) (by kernel_rfl) fun c a=>by kernel_rfl
def t15:List (cn bn):=⟨15,[],[.v 26,.v 0,.v 6],[6,31,0],fun c a=>sy a.1 a.2.1 a.2.2.1⟩::t17
theorem FD:cG (cT g) t15:=dh di FC [(16,0)] .o (by kernel_rfl) fun c a=>by kernel_rfl
def t46:List (cn bn):=⟨46,[],[.v 26,.v 23,.v 6],[6,31],fun c a=>pZ a.1 a.2.1 a.2.2.1⟩::t15
theorem FE:cG (cT g) t46:=dh di FD [(16,0)] (.two .o (.two .o (.two (.two .o (.two (.two (.md 4) .o) .o)) .o))) (by kernel_rfl) fun c a=>by kernel_rfl
def t18:List (cn bn):=⟨18,[],[.v 26,.v 6,.v 6],[6,34,0],fun c a=>rq a.1 a.2.1 a.2.2.1⟩::t46
theorem FF:cG (cT g) t18:=dh di FE [(40,0),(43,31),(68,31)] (.two .o (.two .o (.two (.two .o (.fe [(.s 9,.p 0)] [(.exit 0,[]),(.ret,[(.s 6,.c (.k .cp)),(.s 7,.c (.k .cp)),(.s 8,.c (.int .i64 7))])] (.two .o (.two (.pc [(.normal,[(.s 39,.p 1)])] .o .o) .o)))) (.two .o (.two .o (.two (.two .o (.fe [(.s 10,.p 6),(.s 12,.p 0),(.s 11,.r 34)] [(.exit 2,[(.s 10,.p 6),(.s 11,.r 34)])] (.two .o (.two (.two .lt .o) .o)))) .o)))))) (by kernel_rfl) fun c a=>by kernel_rfl
def t16:List (cn bn):=⟨16,[],[.v 26,.v 0,.v 6],[6,31,0],fun c a=>sG a.1 a.2.1 a.2.2.1⟩::t18
theorem Hf:cG (cT g) t16:=dh di FF [(16,0)] .o (by kernel_rfl) fun c a=>by kernel_rfl
def t19:List (cn bn):=⟨19,[],[.v 6,.v 6],[1],fun c a=>r9 a.1 a.2.1⟩::t16
theorem Ir:cG (cT g) t19:=dh di Hf [] (.two .o (.two .o (.two (.two .o (.fe [(.s 5,.p 0)] [(.exit 0,[]),(.ret,[(.s 4,.c (.b0 false))])] .o)) .o))) (by kernel_rfl) fun c a=>by kernel_rfl
def t20:List (cn bn):=⟨20,[],[.v 34,.v 34],[1],fun c a=>tT a.1 a.2.1⟩::t19
theorem Is:cG (cT g) t20:=dh di Ir [] (.two .o (.two .o (.two (.two .o (.fe [(.s 5,.p 0)] [(.exit 0,[]),(.ret,[(.s 4,.c (.b0 false))])] .o)) .o))) (by kernel_rfl) fun c a=>by kernel_rfl
def t4:List (cn bn):=⟨4,[],[.v 26,.v 6,.v 6,.v 0],[1],fun c a=>tU a.1 a.2.1 a.2.2.1 a.2.2.2.1⟩::t20
theorem cL:cG (cT g) t4:=dh di Is [] (.two .o (.two .o (.two (.pc [(.normal,[(.s 35,.p 1)])] .o .o) (.two .o (.two .o (.two .o (.two .o (.pc [(.normal,[(.s 8,.p 1)])] .o .o)))))))) (by kernel_rfl) fun c a=>by kernel_rfl
theorem It:cT g 4=some (.code (BF (cT g) 4)):=(Jl (J:=bn) (e:=⟨4,[],[.v 26,.v 6,.v 6,.v 0],[1],fun c a=>tU a.1 a.2.1 a.2.2.1 a.2.2.2.1⟩) (by kernel_rfl)).1
theorem asu (m:Model)(st gV:ak Int)(a:Int)(cd:cm st.l)(ao:cm gV.l):bZ (cT g) (.fn 4 [] []) [vn m,bg 1 aD st,bg 1 aD gV,aD a] []=some (.bool true,[],0):=cL.hd [] [] () (m,st,gV,a,()) [] _ true rfl (.nil []) ⟨_,rfl,_,rfl,_,rfl,_,rfl,rfl⟩ (Fz m st gV a cd ao)
end
end Go.Abs.hk
