/- Texts of this claim, joined and written short by a program. -/
import Derived.Test.YtonmjjfciemcoaaGreatDoorP31
import Derived.Test.YtonmjjfciemcoaaGreatDoorP30
import Derived.Test.YtonmjjfciemcoaaGreatDoorP50
import Derived.Test.YtonmjjfciemcoaaGreatDoorP00
set_option linter.unusedVariables false
set_option linter.unusedSimpArgs false
set_option linter.unusedSectionVars false
set_option maxRecDepth 100000
namespace Go.Abs.bz
open Go Go.Abs Go.Abs.gB Go.Abs.Lex
noncomputable section
variable{g:Nat->Option Obj}
theorem xY:∀q∈([(24,0,8),(29,13,1),(30,13,32),(31,14,1),(32,14,64)]:List (Nat × Nat × Nat)),sY aE (cE g) q.1 q.2:=fun q h=>by
 simp only[dx,r4,or_false]at h;rcases h with rfl|rfl|rfl|rfl|rfl
 ·exact⟨8,[aI 0],by kernel_rfl,by decide⟩
 ·exact aDa
 ·exact⟨8,[.aN,aI 0],by kernel_rfl,by decide⟩
 ·exact aDb
 ·exact⟨8,[aI 0,aI 0,.aN,aI 0,aI 0,aI 0],by kernel_rfl,by decide⟩
def t0:List (aX aE):=[]
theorem fh:aZ (cE g) t0:=fun _ h=>by cases h
def t7:List (aX aE):=⟨7,[],[],[1],fun c a=>DZ⟩::t0
theorem mH:aZ (cE g) t7:=fh.cons (uB rfl fun H a r h=>by
 cases h;exact AY (spec:=AB [] (.bool true)) (by kernel_rfl) rfl (by kernel_rfl) H)
def t379:List (aX aE):=⟨379,[],[.v 3],[1],fun c a=>yK a.1⟩::t7
theorem JE:aZ (cE g) t379:=bt bl mH [] (.two .o (.pu [2] .o)) (by kernel_rfl) fun c a=>by kernel_rfl
def t382:List (aX aE):=⟨382,[],[.v 3],[1],fun c a=>yL a.1⟩::t379
theorem JF:aZ (cE g) t382:=bt bl JE [] (.two .o (.pu [2] .o)) (by kernel_rfl) fun c a=>by kernel_rfl
def t381:List (aX aE):=⟨381,[],[.v 3],[1],fun c a=>D4 a.1⟩::t382
theorem JG:aZ (cE g) t381:=bt bl JF [] (.two .o (.pc [(.normal,[(.s 2,.p 1)])] .o .o)) (by kernel_rfl) fun c a=>by kernel_rfl
def t384:List (aX aE):=⟨384,[],[.v 3],[1],fun c a=>Bf a.1⟩::t381
theorem JH:aZ (cE g) t384:=bt bl JG [] (.two .o (.pu [2] .o)) (by kernel_rfl) fun c a=>by kernel_rfl
def t503:List (aX aE):=⟨503,[],[.v 2,.v 2],[1],fun c a=>LW a.1 a.2.1⟩::t384
theorem UG:aZ (cE g) t503:=bt bl JH [] (.two .o (.pc [(.normal,[(.s 4,.p 1)])] .o .o)) (by kernel_rfl) fun c a=>by kernel_rfl
def t451:List (aX aE):=⟨451,[],[.v 2,.v 2],[1],fun c a=>Hg a.1 a.2.1⟩::t503
theorem UH:aZ (cE g) t451:=bt bl UG [] .o (by kernel_rfl) fun c a=>by kernel_rfl
def t452:List (aX aE):=⟨452,[],[.v 2,.v 3],[0],fun c a=>strings_IndexByte a.1 a.2.1⟩::t451
theorem UI:aZ (cE g) t452:=UH.cons (uB rfl fun H ⟨s,c,_⟩ r h=>by
 cases h;exact AY (spec:=FR) (by kernel_rfl) rfl rfl H)
def t383:List (aX aE):=⟨383,[],[.v 2],[0],fun c a=>Bd a.1⟩::t452
theorem JI:aZ (cE g) t383:=bt bl UI [(5,2)] (.two .o (.two (.two .o (.cM [(.s 7,.p 0)] [(.exit 0,[]),(.ret,[(.s 2,.c (.int .i64 2))])] .o)) (.two (.pc [(.normal,[(.s 22,.p 1)])] .o .o) .o))) (by kernel_rfl) fun c a=>by kernel_rfl
def t385:List (aX aE):=⟨385,[],[.v 2],[1],fun c a=>D1 a.1⟩::t383
theorem JJ:aZ (cE g) t385:=bt bl JI [] (.two .o (.pc [(.normal,[(.s 2,.p 1)])] .o .o)) (by kernel_rfl) fun c a=>by kernel_rfl
def t380:List (aX aE):=⟨380,[],[.v 2,.f [3] 1],[0],fun c a=>Be a.1 a.2.1⟩::t385
theorem JK:aZ (cE g) t380:=bt bl JJ [] (.two .o (.two .o (.two (.cM [(.s 5,.p 0)] [(.exit 0,[(.s 5,.p 0)])] (.two (.pc [(.normal,[(.s 16,.p 1)])] .o .o) .o)) .o))) (by kernel_rfl) fun c a=>by kernel_rfl
def t450:List (aX aE):=⟨450,[],[.v 3],[1],fun c a=>Bg a.1⟩::t380
theorem JL:aZ (cE g) t450:=bt bl JK [] .o (by kernel_rfl) fun c a=>by kernel_rfl
def t378:List (aX aE):=⟨378,[],[.v 2],[0],fun c a=>D3 a.1⟩::t450
theorem JM:aZ (cE g) t378:=bt bl JL [] (.two .o (.two .o (.two (.cM [(.s 3,.p 0)] [(.exit 0,[(.s 3,.p 0)]),(.ret,[(.s 2,.p 0)])] .o) .o))) (by kernel_rfl) fun c a=>by kernel_rfl
def t259:List (aX aE):=⟨259,[],[.v 2],[0],fun c a=>LU a.1⟩::t378
theorem UJ:aZ (cE g) t259:=JM.cons (uB rfl fun H ⟨w,_⟩ r h=>by
 cases h;exact ahX ⟨ags JE.hd,agt JF.hd,agu JG.hd,agv JH.hd,agw JJ.hd,agx JI.hd,agy JK.hd,agz JM.hd,agA JL.hd,by kernel_rfl,by kernel_rfl,by kernel_rfl,by kernel_rfl,⟨FQ,by kernel_rfl,by kernel_rfl⟩⟩ w H)
def t38:List (aX aE):=⟨38,[],[.v 6,.v 9],[1],fun c a=>Hk a.1 a.2.1⟩::t259
theorem UK:aZ (cE g) t38:=bt bl UJ [] (.two .o (.two (.two .o (.cM [(.s 5,.p 0)] [(.exit 0,[]),(.ret,[(.s 4,.c (.cw false))])] (.two .o (.two (.pc [(.normal,[(.s 27,.p 1)])] .o .o) .o)))) (.pu [4] .o))) (by kernel_rfl) fun c a=>by kernel_rfl
def t8:List (aX aE):=⟨8,[],[.v 26],[1],fun c a=>D6 a.1⟩::t38
theorem GC:aZ (cE g) t8:=bt bl UK [] (.two .o (.two (.pc [(.normal,[(.s 56,.p 1)])] .o .o) (.two (.two .o (.cM [(.s 3,.p 0)] [(.exit 0,[]),(.ret,[(.s 2,.c (.cw false))])] .o)) (.two (.two .o (.cM [(.s 4,.p 0)] [(.exit 2,[]),(.ret,[(.s 2,.c (.cw false))])] .o)) (.two (.two .o (.cM [(.s 5,.p 0)] [(.exit 4,[]),(.ret,[(.s 2,.c (.cw false))])] (.two .o (.two (.pc [(.normal,[(.s 111,.p 1)])] .o .o) .o)))) (.two (.two .o (.cM [(.s 6,.p 0)] [(.exit 6,[]),(.ret,[(.s 2,.c (.cw false))])] (.two .o (.two (.two .o (.two (.pc [(.normal,[(.s 150,.p 1)])] .o .o) (.two .o (.cM [(.s 8,.p 0)] [(.exit 8,[]),(.ret,[(.s 2,.c (.cw false))])] .o)))) .o)))) .o)))))) (by kernel_rfl) fun c a=>by kernel_rfl
def t10:List (aX aE):=⟨10,[],[.v 6],[1],fun c a=>D7 a.1⟩::t8
theorem UL:aZ (cE g) t10:=bt bl GC [] (.two .o (.two (.two .o (.cM [(.s 3,.p 0)] [(.exit 0,[]),(.ret,[(.s 2,.c (.cw false))])] (.two .o (.two (.pc [(.normal,[(.s 21,.p 1)])] .o .o) .o)))) .o)) (by kernel_rfl) fun c a=>by kernel_rfl
def t51:List (aX aE):=⟨51,[],[.v 6,.f [0] 1],[0],fun c a=>RF a.1 a.2.1⟩::t10
theorem UM:aZ (cE g) t51:=bt bl UL [] (.two .o (.two (.two .o (.cM [(.s 8,.p 0)] [(.exit 0,[]),(.ret,[(.s 4,.p 0)])] .o)) .o)) (by kernel_rfl) fun c a=>by kernel_rfl
def t22:List (aX aE):=⟨22,[],[.v 6,.f [0] 1],[1],fun c a=>ui a.1 a.2.1⟩::t51
theorem UN:aZ (cE g) t22:=bt bl UM [] .o (by kernel_rfl) fun c a=>by kernel_rfl
def t313:List (aX aE):=⟨313,[6],[.v 0],[1],fun c a=>L5 c a.1⟩::t22
theorem UO:aZ (cE g) t313:=bt bl UN [] (.two .o (.pu [3] .o)) (by kernel_rfl) fun c a=>by kernel_rfl
def t192:List (aX aE):=⟨192,[],[.v 6,.v 6],[1],fun c a=>Hm a.1 a.2.1⟩::t313
theorem UP:aZ (cE g) t192:=bt bl UO [] (.two .o (.pc [(.normal,[(.s 4,.p 1)])] .o .o)) (by kernel_rfl) fun c a=>by kernel_rfl
def t219:List (aX aE):=⟨219,[],[.v 0,.v 0,.v 0],[1],fun c a=>Hn a.1 a.2.1 a.2.2.1⟩::t192
theorem UQ:aZ (cE g) t219:=bt bl UP [] (.two .o (.pu [6] .o)) (by kernel_rfl) fun c a=>by kernel_rfl
def t314:List (aX aE):=⟨314,[],[.v 0],[1],fun c a=>L6 a.1⟩::t219
theorem UR:aZ (cE g) t314:=bt bl UQ [] .o (by kernel_rfl) fun c a=>by kernel_rfl
def t193:List (aX aE):=⟨193,[],[.v 6],[1],fun c a=>Ho a.1⟩::t314
theorem US:aZ (cE g) t193:=bt bl UR [] .o (by kernel_rfl) fun c a=>by kernel_rfl
def t432:List (aX aE):=⟨432,[],[.v 27,.v 1],[0],fun c a=>RG a.1 a.2.1⟩::t193
theorem UT:aZ (cE g) t432:=bt bl US [] (.two .o (.two (.two .o (.cM [(.s 8,.p 0)] [(.exit 0,[]),(.ret,[(.s 4,.p 0)])] .o)) .o)) (by kernel_rfl) fun c a=>by kernel_rfl
def t346:List (aX aE):=⟨346,[],[.v 27,.v 1],[1],fun c a=>L7 a.1 a.2.1⟩::t432
theorem UU:aZ (cE g) t346:=bt bl UT [] .o (by kernel_rfl) fun c a=>by kernel_rfl
def t217:List (aX aE):=⟨217,[],[.v 27],[1],fun c a=>Bh a.1⟩::t346
theorem UW:aZ (cE g) t217:=bt bl UU [] .o (by kernel_rfl) fun c a=>by kernel_rfl
def t218:List (aX aE):=⟨218,[],[.v 2],[1],fun c a=>Bi a.1⟩::t217
theorem UX:aZ (cE g) t218:=bt bl UW [] (.two .o (.pc [(.normal,[(.s 2,.p 1)])] .o .o)) (by kernel_rfl) fun c a=>by kernel_rfl
def t220:List (aX aE):=⟨220,[],[.v 8],[1],fun c a=>Hp a.1⟩::t218
theorem UY:aZ (cE g) t220:=bt bl UX [] (.two .o (.pc [(.normal,[]),(.ret,[(.s 2,.p 1)])] (.two .o (.pc [(.normal,[(.s 5,.p 1)])] .o (.two (.pu [2] .o) .o))) .o)) (by kernel_rfl) fun c a=>by kernel_rfl
def t221:List (aX aE):=⟨221,[],[.v 8],[1],fun c a=>Bj a.1⟩::t220
theorem UZ:aZ (cE g) t221:=bt bl UY [] (.two .o (.pu [2] .o)) (by kernel_rfl) fun c a=>by kernel_rfl
def t222:List (aX aE):=⟨222,[],[.v 6,.v 6],[0],fun c a=>uj a.1 a.2.1⟩::t221
theorem U0:aZ (cE g) t222:=bt bl UZ [] (.two .o (.two .o (.two (.two .o (.cM [(.s 5,.p 0),(.s 10,.p 0)] [(.exit 0,[(.s 5,.p 0)])] .o)) .o))) (by kernel_rfl) fun c a=>by kernel_rfl
def t122:List (aX aE):=⟨122,[],[.v 6,.v 9],[1],fun c a=>Bl a.1 a.2.1⟩::t222
theorem U1:aZ (cE g) t122:=bt bl U0 [(19,1),(22,100),(46,1)] (.two .o (.two .o (.two .o (.two .o (.two (.two .o (.cM [(.s 25,.p 0),(.m 2 0,.p 0),(.m 1 0,.p 0),(.s 5,.r 100),(.m 0 0,.d)] [(.exit 0,[(.m 2 0,.p 0),(.m 1 0,.p 0)]),(.ret,[(.s 4,.c (.cw false))])] .o)) (.pu [4] .o)))))) (by kernel_rfl) fun c a=>by kernel_rfl
def t123:List (aX aE):=⟨123,[],[.v 10],[1],fun c a=>Ea a.1⟩::t122
theorem U2:aZ (cE g) t123:=bt bl U1 [(6,100)] (.two .o (.two .o (.two (.two .o (.cM [(.s 9,.p 0),(.s 3,.r 100),(.m 0 0,.d)] [(.exit 0,[]),(.ret,[(.s 2,.c (.cw false))])] (.two .o (.two .o (.two (.two .o (.two (.pc [(.normal,[(.s 20,.p 1)])] .o .o) .o)) .o))))) .o))) (by kernel_rfl) fun c a=>by kernel_rfl
def t223:List (aX aE):=⟨223,[],[.v 28,.v 0],[28],fun c a=>DY a.1 a.2.1⟩::t123
theorem U3:aZ (cE g) t223:=U2.cons (uB rfl fun H ⟨x,n,_⟩ r h=>ah4 ⟨by kernel_rfl,by kernel_rfl,by kernel_rfl⟩ H x n r h)
def t124:List (aX aE):=⟨124,[],[.v 6,.v 9,.v 1],[28],fun c a=>Eb a.1 a.2.1 a.2.2.1⟩::t223
theorem U4:aZ (cE g) t124:=bt bl U3 [(27,7)] (.two .o (.two .o (.two .o (.two (.two .o (.cM [(.s 16,.p 0),(.s 7,.r 28)] [(.exit 0,[(.s 7,.r 28)])] .o)) .o)))) (by kernel_rfl) fun c a=>by kernel_rfl
def t224:List (aX aE):=⟨224,[],[.v 0,.v 0],[1],fun c a=>mS a.1 a.2.1⟩::t124
theorem U5:aZ (cE g) t224:=bt bl U4 [] (.two .o (.pu [4] .o)) (by kernel_rfl) fun c a=>by kernel_rfl
def t229:List (aX aE):=⟨229,[],[.v 0,.v 0],[1],fun c a=>yO a.1 a.2.1⟩::t224
theorem U6:aZ (cE g) t229:=bt bl U5 [] (.two .o (.pu [4] .o)) (by kernel_rfl) fun c a=>by kernel_rfl
def t225:List (aX aE):=⟨225,[],[.v 29,.v 13],[1],fun c a=>Ec a.1 a.2.1⟩::t229
theorem U7:aZ (cE g) t225:=bt bl U6 [] (.two .o (.two .o (.two (.two .o (.cM [(.s 5,.p 0),(.s 11,.p 0)] [(.exit 0,[]),(.ret,[(.s 4,.c (.cw false))])] (.two .o (.two .o (.two (.two .o (.two (.pc [(.normal,[(.s 37,.p 1)])] .o .o) .o)) .o))))) .o))) (by kernel_rfl) fun c a=>by kernel_rfl
def t200:List (aX aE):=⟨200,[],[.v 9,.f [8] 1],[0],fun c a=>RN a.1 a.2.1⟩::t225
theorem U8:aZ (cE g) t200:=bt bl U7 [] (.two .o (.two (.two .o (.cM [(.s 8,.p 0)] [(.exit 0,[]),(.ret,[(.s 4,.p 0)])] .o)) .o)) (by kernel_rfl) fun c a=>by kernel_rfl
def t348:List (aX aE):=⟨348,[],[.v 9,.f [8] 1],[1],fun c a=>Mb a.1 a.2.1⟩::t200
theorem U9:aZ (cE g) t348:=bt bl U8 [] .o (by kernel_rfl) fun c a=>by kernel_rfl
def t349:List (aX aE):=⟨349,[14,29],[.v 8],[1],fun c a=>Hu c.1 c.2 a.1⟩::t348
theorem Va:aZ (cE g) t349:=bt bl U9 [] (.two .o (.pc [(.normal,[(.s 4,.p 1)])] .o .o)) (by kernel_rfl) fun c a=>by kernel_rfl
def t226:List (aX aE):=⟨226,[],[.v 29,.v 14],[1],fun c a=>Hv a.1 a.2.1⟩::t349
theorem Vb:aZ (cE g) t226:=bt bl Va [] (.two .o (.pc [(.normal,[(.s 4,.p 1)])] .o .o)) (by kernel_rfl) fun c a=>by kernel_rfl
def t350:List (aX aE):=⟨350,[],[.v 12,.v 12],[1],fun c a=>yP a.1 a.2.1⟩::t226
theorem Vc:aZ (cE g) t350:=bt bl Vb [] (.two .o (.two .o (.two (.two .o (.cM [(.s 13,.p 0)] [(.exit 0,[]),(.ret,[(.s 4,.c (.cw false))])] .o)) .o))) (by kernel_rfl) fun c a=>by kernel_rfl
def t227:List (aX aE):=⟨227,[],[.v 13,.v 0,.v 0,.v 0],[1],fun c a=>Hy a.1 a.2.1 a.2.2.1 a.2.2.2.1⟩::t350
theorem Vd:aZ (cE g) t227:=bt bl Vc [(14,11)] (.two .o (.pc [(.normal,[(.s 8,.p 1)])] .o .o)) (by kernel_rfl) fun c a=>by kernel_rfl
def t125:List (aX aE):=⟨125,[],[.v 29],[1],fun c a=>HA a.1⟩::t227
theorem Ve:aZ (cE g) t125:=bt bl Vd [] (.two .o (.two (.pu [23] .o) (.two (.two .o (.cM [(.s 28,.p 0)] [(.exit 0,[]),(.ret,[(.s 2,.c (.cw false))])] (.two .o (.two .o (.two (.two .o (.pc [(.normal,[]),(.ret,[(.s 2,.c (.cw false))])] (.two .o (.two .o (.two .o (.two (.pc [(.normal,[(.s 60,.p 1)])] .o .o) (.pc [(.normal,[(.s 61,.p 1)])] .o .o))))) (.two .o (.two (.two .o (.pc [(.normal,[(.s 6,.p 0),(.s 7,.p 0)])] .o (.pc [(.normal,[(.s 103,.p 1)])] .o .o))) .o)))) .o))))) .o))) (by kernel_rfl) fun c a=>by kernel_rfl
def t228:List (aX aE):=⟨228,[29],[.v 0],[1],fun c a=>HB c a.1⟩::t125
theorem Vf:aZ (cE g) t228:=bt bl Ve [] (.two .o (.pu [3] .o)) (by kernel_rfl) fun c a=>by kernel_rfl
def t126:List (aX aE):=⟨126,[],[.v 29],[1],fun c a=>HE a.1⟩::t228
theorem Vg:aZ (cE g) t126:=bt bl Vf [(17,2)] (.two .o (.two .o (.two (.two .o (.cM [(.s 10,.p 0),(.s 3,.r 10)] [(.exit 0,[(.s 3,.r 10)]),(.ret,[(.s 2,.c (.cw false))])] (.two .o (.two .o (.two (.two .o (.two .o (.pc [(.normal,[(.s 28,.p 1)])] .o .o))) .o))))) (.pc [(.normal,[(.s 2,.p 1)])] .o .o)))) (by kernel_rfl) fun c a=>by kernel_rfl
def t143:List (aX aE):=⟨143,[],[.v 0],[1],fun c a=>cmp_isNaN_int a.1⟩::t126
theorem Vh:aZ (cE g) t143:=bt bl Vg [] .o (by kernel_rfl) fun c a=>by kernel_rfl
def t86:List (aX aE):=⟨86,[],[.v 0,.v 0],[0],fun c a=>cmp_Compare_int a.1 a.2.1⟩::t143
theorem Vi:aZ (cE g) t86:=bt bl Vh [] .o (by kernel_rfl) fun c a=>by kernel_rfl
def t230:List (aX aE):=⟨230,[],[.v 6,.v 6],[0],fun c a=>Ee a.1 a.2.1⟩::t86
theorem Vj:aZ (cE g) t230:=bt bl Vi [] (.two .o (.two (.two .o (.cM [(.s 11,.p 0)] [(.exit 0,[]),(.ret,[(.s 4,.p 0)])] .o)) .o)) (by kernel_rfl) fun c a=>by kernel_rfl
def t135:List (aX aE):=⟨135,[],[.v 20,.f [13] 1],[0],fun c a=>RS a.1 a.2.1⟩::t230
theorem Vk:aZ (cE g) t135:=bt bl Vj [] (.two .o (.two (.two .o (.cM [(.s 8,.p 0)] [(.exit 0,[]),(.ret,[(.s 4,.p 0)])] .o)) .o)) (by kernel_rfl) fun c a=>by kernel_rfl
def t71:List (aX aE):=⟨71,[],[.v 20,.f [13] 1],[1],fun c a=>Ef a.1 a.2.1⟩::t135
theorem Vl:aZ (cE g) t71:=bt bl Vk [] .o (by kernel_rfl) fun c a=>by kernel_rfl
def t355:List (aX aE):=⟨355,[],[.v 6,.v 9,.v 1,.v 0],[0,6,1],fun c a=>HH a.1 a.2.1 a.2.2.1 a.2.2.2.1⟩::t71
theorem Vm:aZ (cE g) t355:=bt bl Vl [(55,0)] (.two .o (.two (.pc [(.normal,[(.s 24,.p 1)])] .o .o) (.two (.two .o (.cM [(.s 27,.p 0)] [(.exit 0,[]),(.ret,[(.s 8,.p 0),(.s 9,.r 6),(.s 10,.c (.cw true))])] (.two .o (.two .o (.two (.two .o (.two .o (.two (.pc [(.normal,[(.s 51,.p 1)])] .o .o) (.two .o (.two (.two .o (.cM [(.s 13,.p 0),(.s 15,.p 0),(.s 14,.r 6),(.m 1 0,.d)] [(.exit 2,[(.s 14,.r 6),(.m 1 0,.d)])] .o)) .o))))) .o))))) .o))) (by kernel_rfl) fun c a=>by kernel_rfl
def t351:List (aX aE):=⟨351,[],[.v 29,.v 21],[1],fun c a=>HI a.1 a.2.1⟩::t355
theorem Vn:aZ (cE g) t351:=bt bl Vm [] (.two .o (.two .o (.two .o (.two .o (.two .o (.pc [(.normal,[(.s 51,.p 1)])] .o (.two (.pu [4] .o) (.pu [4] .o)))))))) (by kernel_rfl) fun c a=>by kernel_rfl
def t352:List (aX aE):=⟨352,[29],[.v 13],[1],fun c a=>HK c a.1⟩::t351
theorem Vo:aZ (cE g) t352:=bt bl Vn [] .o (by kernel_rfl) fun c a=>by kernel_rfl
def t231:List (aX aE):=⟨231,[],[.v 29,.v 23],[1],fun c a=>HN a.1 a.2.1⟩::t352
theorem Vp:aZ (cE g) t231:=bt bl Vo [] (.two .o (.two .o (.two (.two .o (.cM [(.s 5,.p 0),(.s 13,.p 0)] [(.exit 0,[]),(.ret,[(.s 4,.c (.cw false))])] (.two .o (.two .o (.two (.two .o (.two (.pc [(.normal,[(.s 39,.p 1)])] .o .o) .o)) .o))))) (.two .o (.two (.two .o (.cM [(.s 5,.p 0),(.s 46,.p 0)] [(.exit 2,[]),(.ret,[(.s 4,.c (.cw false))])] (.two .o (.two .o (.two (.two .o (.two (.pc [(.normal,[(.s 59,.p 1)])] .o .o) .o)) .o))))) (.pc [(.normal,[(.s 4,.p 1)])] .o .o)))))) (by kernel_rfl) fun c a=>by kernel_rfl
def t127:List (aX aE):=⟨127,[],[.v 29],[1],fun c a=>HR a.1⟩::t231
theorem Vq:aZ (cE g) t127:=bt bl Vp [] (.two .o (.two .o (.two (.two .o (.cM [(.s 18,.p 0)] [(.exit 0,[]),(.ret,[(.s 2,.c (.cw false))])] (.two .o (.two .o (.two (.two .o (.two (.pc [(.normal,[(.s 45,.p 1)])] .o .o) (.two (.two .o (.cM [(.s 55,.p 0)] [(.exit 2,[]),(.ret,[(.s 2,.c (.cw false))])] (.two .o (.two .o (.two (.two .o (.two .o (.pc [(.normal,[(.s 86,.p 1)])] .o .o))) .o))))) (.pc [(.normal,[]),(.ret,[(.s 2,.c (.cw false))])] (.two .o (.two (.two .o (.pc [(.normal,[(.s 116,.p 1)])] .o .o)) .o)) .o)))) .o))))) .o))) (by kernel_rfl) fun c a=>by kernel_rfl
def t128:List (aX aE):=⟨128,[],[.v 29],[1],fun c a=>Rw a.1⟩::t127
theorem Vr:aZ (cE g) t128:=Vq.cons (uB rfl fun H ⟨j,_⟩ r h=>by
 cases h;exact AY (spec:=zm) (by kernel_rfl) (by simp[IV,cj,bI,SE]) (aib j) H)
def t63:List (aX aE):=⟨63,[],[.v 26],[1],fun c a=>HS a.1⟩::t128
theorem Vs:aZ (cE g) t63:=bt bl Vr [] (.two .o (.two (.pc [(.normal,[(.s 21,.p 1)])] .o .o) (.two .lt (.pc [(.normal,[(.s 2,.p 1)])] .o .o)))) (by kernel_rfl) fun c a=>by kernel_rfl
def t79:List (aX aE):=⟨79,[],[.v 6,.v 9,.v 1],[0],fun c a=>Mh a.1 a.2.1 a.2.2.1⟩::t63
theorem Vt:aZ (cE g) t79:=bt bl Vs [] .o (by kernel_rfl) fun c a=>by kernel_rfl
def t47:List (aX aE):=⟨47,[],[.v 26,.v 6],[1],fun c a=>Mi a.1 a.2.1⟩::t79
theorem Vu:aZ (cE g) t47:=bt bl Vt [] (.two .o (.pc [(.normal,[(.s 4,.p 1)])] .o .o)) (by kernel_rfl) fun c a=>by kernel_rfl
def t80:List (aX aE):=⟨80,[],[.v 15,.f [14] 1],[0],fun c a=>R1 a.1 a.2.1⟩::t47
theorem Vv:aZ (cE g) t80:=bt bl Vu [] (.two .o (.two (.two .o (.cM [(.s 8,.p 0)] [(.exit 0,[]),(.ret,[(.s 4,.p 0)])] .o)) .o)) (by kernel_rfl) fun c a=>by kernel_rfl
def t48:List (aX aE):=⟨48,[],[.v 15,.f [14] 1],[1],fun c a=>Mj a.1 a.2.1⟩::t80
theorem Vw:aZ (cE g) t48:=bt bl Vv [] .o (by kernel_rfl) fun c a=>by kernel_rfl
def t81:List (aX aE):=⟨81,[],[.v 14,.v 0],[1],fun c a=>Eg a.1 a.2.1⟩::t48
theorem Vx:aZ (cE g) t81:=bt bl Vw [] (.two .o (.pu [4] .o)) (by kernel_rfl) fun c a=>by kernel_rfl
def t139:List (aX aE):=⟨139,[6,14],[.v 0,.v 0],[1],fun c a=>Eh c.1 c.2 a.1 a.2.1⟩::t81
theorem Vy:aZ (cE g) t139:=bt bl Vx [] .o (by kernel_rfl) fun c a=>by kernel_rfl
def t246:List (aX aE):=⟨246,[],[.v 6,.v 0],[0],fun c a=>R2 a.1 a.2.1⟩::t139
theorem Vz:aZ (cE g) t246:=bt bl Vy [] (.two .o (.two (.two .o (.cM [(.s 8,.p 0)] [(.exit 0,[]),(.ret,[(.s 4,.p 0)])] .o)) .o)) (by kernel_rfl) fun c a=>by kernel_rfl
def t140:List (aX aE):=⟨140,[],[.v 6,.v 0],[1],fun c a=>HT a.1 a.2.1⟩::t246
theorem VA:aZ (cE g) t140:=bt bl Vz [] .o (by kernel_rfl) fun c a=>by kernel_rfl
def t82:List (aX aE):=⟨82,[],[.v 14,.v 6],[6],fun c a=>HW a.1 a.2.1⟩::t140
theorem VB:aZ (cE g) t82:=y8 bl VA [(26,0),(27,6),(76,0),(78,6)] [(24,0,8),(29,13,1),(30,13,32),(31,14,1),(32,14,64)] xY (.two .o (.two .o (.two .o (.two .o (.two (.two .o (.cM [(.s 21,.p 0),(.s 6,.r 30)] [(.exit 0,[(.s 6,.r 30)])] .o)) (.two (.cM [(.s 6,.r 30),(.m 2 0,.d)] [(.exit 2,[]),(.ret,[(.s 4,.p 6)])] (.two .o (.two .o (.two (.two .o (.cM [(.s 35,.p 0),(.s 8,.r 30)] [(.exit 4,[(.s 8,.r 30)]),(.ret,[(.s 4,.p 6)])] (.two .o (.two .o (.two (.two .o (.two .o (.two .o (.two .o (.cM [(.s 12,.p 0),(.s 8,.r 30),(.m 4 0,.d)] [(.exit 6,[(.s 8,.r 30),(.m 4 0,.d)])] (.two .o (.two (.pc [(.normal,[(.s 71,.p 1)])] .o .o) .o))))))) .o))))) .o)))) .o)))))) (by kernel_rfl) fun c a=>by kernel_rfl
def t83:List (aX aE):=⟨83,[],[.v 0,.v 0,.v 0],[1],fun c a=>HX a.1 a.2.1 a.2.2.1⟩::t82
theorem VC:aZ (cE g) t83:=bt bl VB [] (.two .o (.two .o (.pu [6] .o))) (by kernel_rfl) fun c a=>by kernel_rfl
def t50:List (aX aE):=⟨50,[],[.v 14,.v 6],[1],fun c a=>js a.1 a.2.1⟩::t83
theorem VD:aZ (cE g) t50:=bt bl VC [] (.two .o (.two (.two .o (.two (.pc [(.normal,[(.s 4,.p 1)])] .o .o) .o)) (.two .o (.two (.two .o (.cM [(.s 5,.p 0),(.s 6,.p 0),(.s 27,.p 0)] [(.exit 0,[(.s 5,.p 0),(.s 6,.p 0)]),(.ret,[(.s 4,.c (.cw false))])] (.two .o (.two .o (.two (.two .o (.two (.pu [40] .o) .o)) .o))))) (.pc [(.normal,[(.s 4,.p 1)])] .o .o))))) (by kernel_rfl) fun c a=>by kernel_rfl
def t49:List (aX aE):=⟨49,[6],[.v 14],[1],fun c a=>HY c a.1⟩::t50
theorem VE:aZ (cE g) t49:=bt bl VD [] .o (by kernel_rfl) fun c a=>by kernel_rfl
def t21:List (aX aE):=⟨21,[],[.v 26,.v 6],[1],fun c a=>qK a.1 a.2.1⟩::t49
theorem VF:aZ (cE g) t21:=bt bl VE [] (.two .o (.pc [(.normal,[(.s 4,.p 1)])] .o .o)) (by kernel_rfl) fun c a=>by kernel_rfl
def t134:List (aX aE):=⟨134,[],[.v 19,.f [18] 1],[0],fun c a=>R7 a.1 a.2.1⟩::t21
theorem VG:aZ (cE g) t134:=bt bl VF [] (.two .o (.two (.two .o (.cM [(.s 8,.p 0)] [(.exit 0,[]),(.ret,[(.s 4,.p 0)])] .o)) .o)) (by kernel_rfl) fun c a=>by kernel_rfl
def t68:List (aX aE):=⟨68,[],[.v 19,.f [18] 1],[1],fun c a=>Ml a.1 a.2.1⟩::t134
theorem VH:aZ (cE g) t68:=bt bl VG [] .o (by kernel_rfl) fun c a=>by kernel_rfl
def t70:List (aX aE):=⟨70,[],[.v 0],[1],fun c a=>Em a.1⟩::t68
theorem VI:aZ (cE g) t70:=bt bl VH [] (.two .o (.pu [2] .o)) (by kernel_rfl) fun c a=>by kernel_rfl
def t69:List (aX aE):=⟨69,[0],[.v 18],[1],fun c a=>En c a.1⟩::t70
theorem VJ:aZ (cE g) t69:=bt bl VI [] (.two .o (.pc [(.normal,[(.s 3,.p 1)])] .o .o)) (by kernel_rfl) fun c a=>by kernel_rfl
def t234:List (aX aE):=⟨234,[],[.v 12,.f [11] 1],[0],fun c a=>R8 a.1 a.2.1⟩::t69
theorem VK:aZ (cE g) t234:=bt bl VJ [] (.two .o (.two (.two .o (.cM [(.s 8,.p 0)] [(.exit 0,[]),(.ret,[(.s 4,.p 0)])] .o)) .o)) (by kernel_rfl) fun c a=>by kernel_rfl
def t129:List (aX aE):=⟨129,[],[.v 12,.f [11] 1],[1],fun c a=>Mm a.1 a.2.1⟩::t234
theorem VL:aZ (cE g) t129:=bt bl VK [] .o (by kernel_rfl) fun c a=>by kernel_rfl
def t130:List (aX aE):=⟨130,[0],[.v 11],[1],fun c a=>Eo c a.1⟩::t129
theorem VM:aZ (cE g) t130:=bt bl VL [] (.two .o (.pc [(.normal,[(.s 3,.p 1)])] .o .o)) (by kernel_rfl) fun c a=>by kernel_rfl
def t64:List (aX aE):=⟨64,[],[.v 13,.v 0],[1],fun c a=>HZ a.1 a.2.1⟩::t130
theorem VN:aZ (cE g) t64:=bt bl VM [] .o (by kernel_rfl) fun c a=>by kernel_rfl
def t72:List (aX aE):=⟨72,[0],[.v 13],[1],fun c a=>H3 c a.1⟩::t64
theorem VO:aZ (cE g) t72:=bt bl VN [] .o (by kernel_rfl) fun c a=>by kernel_rfl
def t39:List (aX aE):=⟨39,[],[.v 23,.v 0],[1],fun c a=>H4 a.1 a.2.1⟩::t72
theorem VP:aZ (cE g) t39:=bt bl VO [] (.two .o (.pc [(.normal,[(.s 4,.p 1)])] .o .o)) (by kernel_rfl) fun c a=>by kernel_rfl
def t27:List (aX aE):=⟨27,[],[.v 6,.v 19],[6],fun c a=>rD a.1 a.2.1⟩::t39
theorem VQ:aZ (cE g) t27:=y8 bl VP [] [(24,0,8),(29,13,1),(30,13,32),(31,14,1),(32,14,64)] xY (.two .o (.two .o (.two (.two .o (.cM [(.s 12,.p 0),(.s 5,.r 6),(.m 0 0,.d)] [(.exit 0,[(.s 5,.r 6),(.m 0 0,.d)])] (.two .o (.two .o (.two (.two .o (.pu [25] .o)) .o))))) .o))) (by kernel_rfl) fun c a=>by kernel_rfl
def t40:List (aX aE):=⟨40,[],[.v 26,.v 23,.v 6],[31],fun c a=>oY a.1 a.2.1 a.2.2.1⟩::t27
theorem VR:aZ (cE g) t40:=bt bl VQ [] (.two .o (.two (.two .o (.cM [(.s 15,.p 0)] [(.exit 0,[]),(.ret,[(.m 2 1,.p 0),(.m 2 0,.c (.int .i64 1))])] .o)) (.two .o (.two (.two .o (.cM [(.s 35,.p 0)] [(.exit 2,[]),(.ret,[(.m 2 1,.p 0),(.m 2 0,.c (.int .i64 2))])] .o)) .o)))) (by kernel_rfl) fun c a=>by kernel_rfl
def t11:List (aX aE):=⟨11,[],[.v 26,.v 23,.v 6],[31,0],fun c a=>H6 a.1 a.2.1 a.2.2.1⟩::t40
theorem VS:aZ (cE g) t11:=bt bl VR [] .o (by kernel_rfl) fun c a=>by kernel_rfl
def t13:List (aX aE):=⟨13,[],[.v 26,.v 23,.v 6],[1],fun c a=>pO a.1 a.2.1 a.2.2.1⟩::t11
theorem VT:aZ (cE g) t13:=bt bl VS [] (.two .o (.two .o (.pu [6] .o))) (by kernel_rfl) fun c a=>by kernel_rfl
def t6:List (aX aE):=⟨6,[],[.v 26,.v 3,.v 3,.v 3,.v 6],[1],fun c a=>Mt a.1 a.2.1 a.2.2.1 a.2.2.2.1 a.2.2.2.2.1⟩::t13
theorem ic:aZ (cE g) t6:=y8 bl VT [] [(24,0,8),(29,13,1),(30,13,32),(31,14,1),(32,14,64)] xY (.two .o (.two .o (.two (.pc [(.normal,[(.s 39,.p 1)])] .o .o) (.two .lt (.two .o (.two .o (.pc [(.normal,[(.m 2 1,.p 20)])] .o (.two .o (.pc [(.normal,[(.m 3 3,.p 15)])] .o (.pc [(.normal,[(.s 10,.p 1)])] .o .o)))))))))) (by kernel_rfl) fun c a=>by kernel_rfl
theorem aDc:cE g 6=some (.code (y6 (cE g) 6)):=(y7 (U:=aE) (e:=⟨6,[],[.v 26,.v 3,.v 3,.v 3,.v 6],[1],fun c a=>Mt a.1 a.2.1 a.2.2.1 a.2.2.2.1 a.2.2.2.2.1⟩) (by kernel_rfl)).1
theorem VU (m:Model)(a b c:Int)(l:ae Int)(ha:0<=a/\a<=255)(hb:0<=b/\b<=255)(hc:0<=c/\c<=255)(hl:b9 l.l):b0 (cE g) (.fn 6 [] []) [ug m,.int .u8 a,.int .u8 b,.int .u8 c,bn 1 aI l] []=some (.bool true,[],0):=ic.hd [] [] () (m,a,b,c,l,()) [] _ true rfl (.nil []) ⟨_,rfl,_,rfl,_,rfl,_,rfl,_,rfl,rfl⟩ (aCN m a b c l ha hb hc hl)
end
end Go.Abs.bz
