/- Texts of this claim, joined and written short by a program. -/
import Derived.Test.YtgkcikhegodchaaGreatDoorS33
import Derived.Test.YtgkcikhegodchaaGreatDoorS32
import Derived.Test.YtgkcikhegodchaaGreatDoorS35
import Derived.Test.YtgkcikhegodchaaGreatDoorS36
import Derived.Test.YtgkcikhegodchaaGreatDoorS00
set_option linter.unusedVariables false
set_option linter.unusedSimpArgs false
set_option linter.unusedSectionVars false
set_option maxRecDepth 100000
namespace Go.Abs.bs
open Go Go.Abs Go.Abs.hq Go.Abs.Lex
noncomputable section
variable{g:Nat->Option Obj}
theorem afi:∀q∈([(46,0,8)]:List (Nat × Nat × Nat)),x5 bt (cT g) q.1 q.2:=fun q h=>by
 simp only[dp,rE,or_false]at h;rcases h with rfl;exact⟨8,[aI 0],by kernel_rfl,by decide⟩
def t0:List (cq bt):=[]
theorem gT:cG (cT g) t0:=fun _ h=>by cases h
def t6:List (cq bt):=⟨6,[],[],[1],fun c a=>PA⟩::t0
theorem hU:cG (cT g) t6:=gT.cons (Da rfl fun H a r h=>by
 cases h;exact Jq (spec:=Ce [] (.bool true)) (by kernel_rfl) rfl (by kernel_rfl) H)
def t245:List (cq bt):=⟨245,[],[.v 3],[1],fun c a=>zV a.1⟩::t6
theorem afj:cG (cT g) t245:=c9 c6 hU [] (.two .o (.pu [2] .o)) (by kernel_rfl) fun c a=>by kernel_rfl
def t248:List (cq bt):=⟨248,[],[.v 3],[1],fun c a=>zW a.1⟩::t245
theorem afk:cG (cT g) t248:=c9 c6 afj [] (.two .o (.pu [2] .o)) (by kernel_rfl) fun c a=>by kernel_rfl
def t247:List (cq bt):=⟨247,[],[.v 3],[1],fun c a=>Ft a.1⟩::t248
theorem afl:cG (cT g) t247:=c9 c6 afk [] (.two .o (.pc [(.normal,[(.s 2,.p 1)])] .o .o)) (by kernel_rfl) fun c a=>by kernel_rfl
def t250:List (cq bt):=⟨250,[],[.v 3],[1],fun c a=>CA a.1⟩::t247
theorem afm:cG (cT g) t250:=c9 c6 afl [] (.two .o (.pu [2] .o)) (by kernel_rfl) fun c a=>by kernel_rfl
def t434:List (cq bt):=⟨434,[],[.v 2,.v 2],[1],fun c a=>PC a.1 a.2.1⟩::t250
theorem ax4:cG (cT g) t434:=c9 c6 afm [] (.two .o (.pc [(.normal,[(.s 4,.p 1)])] .o .o)) (by kernel_rfl) fun c a=>by kernel_rfl
def t370:List (cq bt):=⟨370,[],[.v 2,.v 2],[1],fun c a=>JE a.1 a.2.1⟩::t434
theorem ax5:cG (cT g) t370:=c9 c6 ax4 [] .o (by kernel_rfl) fun c a=>by kernel_rfl
def t371:List (cq bt):=⟨371,[],[.v 2,.v 3],[0],fun c a=>strings_IndexByte a.1 a.2.1⟩::t370
theorem ax6:cG (cT g) t371:=ax5.cons (Da rfl fun H ⟨s,c,_⟩ r h=>by
 cases h;exact Jq (spec:=yX) (by kernel_rfl) rfl rfl H)
def t249:List (cq bt):=⟨249,[],[.v 2],[0],fun c a=>Cy a.1⟩::t371
theorem afn:cG (cT g) t249:=c9 c6 ax6 [(5,2)] (.two .o (.two (.two .o (.eE [(.s 7,.p 0)] [(.exit 0,[]),(.ret,[(.s 2,.c (.int .i64 2))])] .o)) (.two (.pc [(.normal,[(.s 22,.p 1)])] .o .o) .o))) (by kernel_rfl) fun c a=>by kernel_rfl
def t251:List (cq bt):=⟨251,[],[.v 2],[1],fun c a=>Fo a.1⟩::t249
theorem afo:cG (cT g) t251:=c9 c6 afn [] (.two .o (.pc [(.normal,[(.s 2,.p 1)])] .o .o)) (by kernel_rfl) fun c a=>by kernel_rfl
def t246:List (cq bt):=⟨246,[],[.v 2,.f [3] 1],[0],fun c a=>Cz a.1 a.2.1⟩::t251
theorem afp:cG (cT g) t246:=c9 c6 afo [] (.two .o (.two .o (.two (.eE [(.s 5,.p 0)] [(.exit 0,[(.s 5,.p 0)])] (.two (.pc [(.normal,[(.s 16,.p 1)])] .o .o) .o)) .o))) (by kernel_rfl) fun c a=>by kernel_rfl
def t369:List (cq bt):=⟨369,[],[.v 3],[1],fun c a=>CB a.1⟩::t246
theorem afq:cG (cT g) t369:=c9 c6 afp [] .o (by kernel_rfl) fun c a=>by kernel_rfl
def t244:List (cq bt):=⟨244,[],[.v 2],[0],fun c a=>Fs a.1⟩::t369
theorem afr:cG (cT g) t244:=c9 c6 afq [] (.two .o (.two .o (.two (.eE [(.s 3,.p 0)] [(.exit 0,[(.s 3,.p 0)]),(.ret,[(.s 2,.p 0)])] .o) .o))) (by kernel_rfl) fun c a=>by kernel_rfl
def t138:List (cq bt):=⟨138,[],[.v 2],[0],fun c a=>JC a.1⟩::t244
theorem ax7:cG (cT g) t138:=afr.cons (Da rfl fun H ⟨w,_⟩ r h=>by
 cases h;exact at5 ⟨aqq afj.hd,aqr afk.hd,aqs afl.hd,aqt afm.hd,aqu afo.hd,aqv afn.hd,aqw afp.hd,aqx afr.hd,aqy afq.hd,by kernel_rfl,by kernel_rfl,by kernel_rfl,by kernel_rfl,⟨yW,by kernel_rfl,by kernel_rfl⟩⟩ w H)
def t43:List (cq bt):=⟨43,[],[.v 8],[1],fun c a=>CD a.1⟩::t138
theorem ax8:cG (cT g) t43:=c9 c6 ax7 [] (.two .o (.pu [2] .o)) (by kernel_rfl) fun c a=>by kernel_rfl
def t44:List (cq bt):=⟨44,[],[.v 6,.v 6],[0],fun c a=>uA a.1 a.2.1⟩::t43
theorem ax9:cG (cT g) t44:=c9 c6 ax8 [] (.two .o (.two .o (.two (.two .o (.eE [(.s 5,.p 0),(.s 10,.p 0)] [(.exit 0,[(.s 5,.p 0)])] .o)) .o))) (by kernel_rfl) fun c a=>by kernel_rfl
def t264:List (cq bt):=⟨264,[],[.v 9,.v 1],[0],fun c a=>aaD a.1 a.2.1⟩::t44
theorem aya:cG (cT g) t264:=c9 c6 ax9 [] (.two .o (.two (.two .o (.eE [(.s 8,.p 0)] [(.exit 0,[]),(.ret,[(.s 4,.p 0)])] .o)) .o)) (by kernel_rfl) fun c a=>by kernel_rfl
def t153:List (cq bt):=⟨153,[],[.v 9,.v 1],[1],fun c a=>PF a.1 a.2.1⟩::t264
theorem ayb:cG (cT g) t153:=c9 c6 aya [] .o (by kernel_rfl) fun c a=>by kernel_rfl
def t75:List (cq bt):=⟨75,[],[.v 9],[1],fun c a=>CE a.1⟩::t153
theorem ayc:cG (cT g) t75:=c9 c6 ayb [] .o (by kernel_rfl) fun c a=>by kernel_rfl
def t160:List (cq bt):=⟨160,[],[.v 6,.f [0] 1],[0],fun c a=>aaE a.1 a.2.1⟩::t75
theorem ayd:cG (cT g) t160:=c9 c6 ayc [] (.two .o (.two (.two .o (.eE [(.s 8,.p 0)] [(.exit 0,[]),(.ret,[(.s 4,.p 0)])] .o)) .o)) (by kernel_rfl) fun c a=>by kernel_rfl
def t86:List (cq bt):=⟨86,[],[.v 6,.f [0] 1],[1],fun c a=>Fu a.1 a.2.1⟩::t160
theorem aye:cG (cT g) t86:=c9 c6 ayd [] .o (by kernel_rfl) fun c a=>by kernel_rfl
def t78:List (cq bt):=⟨78,[],[.v 0,.v 0,.v 0],[1],fun c a=>JG a.1 a.2.1 a.2.2.1⟩::t86
theorem ayf:cG (cT g) t78:=c9 c6 aye [] (.two .o (.pu [6] .o)) (by kernel_rfl) fun c a=>by kernel_rfl
def t154:List (cq bt):=⟨154,[],[.v 0],[1],fun c a=>PG a.1⟩::t78
theorem ayg:cG (cT g) t154:=c9 c6 ayf [] .o (by kernel_rfl) fun c a=>by kernel_rfl
def t76:List (cq bt):=⟨76,[],[.v 6],[1],fun c a=>JH a.1⟩::t154
theorem ayh:cG (cT g) t76:=c9 c6 ayg [] .o (by kernel_rfl) fun c a=>by kernel_rfl
def t77:List (cq bt):=⟨77,[],[.v 2],[1],fun c a=>zX a.1⟩::t76
theorem ayi:cG (cT g) t77:=c9 c6 ayh [] (.two .o (.pc [(.normal,[(.s 2,.p 1)])] .o .o)) (by kernel_rfl) fun c a=>by kernel_rfl
def t155:List (cq bt):=⟨155,[6],[.v 0],[1],fun c a=>PH c a.1⟩::t77
theorem ayj:cG (cT g) t155:=c9 c6 ayi [] (.two .o (.pu [3] .o)) (by kernel_rfl) fun c a=>by kernel_rfl
def t79:List (cq bt):=⟨79,[],[.v 6,.v 6],[1],fun c a=>JI a.1 a.2.1⟩::t155
theorem ayk:cG (cT g) t79:=c9 c6 ayj [] (.two .o (.pc [(.normal,[(.s 4,.p 1)])] .o .o)) (by kernel_rfl) fun c a=>by kernel_rfl
def t80:List (cq bt):=⟨80,[],[.v 8],[1],fun c a=>JJ a.1⟩::t79
theorem ayl:cG (cT g) t80:=c9 c6 ayk [] (.two .o (.pc [(.normal,[]),(.ret,[(.s 2,.p 1)])] (.two .o (.pc [(.normal,[(.s 5,.p 1)])] .o (.two (.pu [2] .o) .o))) .o)) (by kernel_rfl) fun c a=>by kernel_rfl
def t35:List (cq bt):=⟨35,[],[.v 6,.v 10],[1],fun c a=>zZ a.1 a.2.1⟩::t80
theorem aym:cG (cT g) t35:=c9 c6 ayl [(19,1),(22,100),(46,1)] (.two .o (.two .o (.two .o (.two .o (.two (.two .o (.eE [(.s 25,.p 0),(.m 2 0,.p 0),(.m 1 0,.p 0),(.s 5,.r 100),(.m 0 0,.d)] [(.exit 0,[(.m 2 0,.p 0),(.m 1 0,.p 0)]),(.ret,[(.s 4,.c (.cX false))])] .o)) (.pu [4] .o)))))) (by kernel_rfl) fun c a=>by kernel_rfl
def t36:List (cq bt):=⟨36,[],[.v 11],[1],fun c a=>Fw a.1⟩::t35
theorem ayn:cG (cT g) t36:=c9 c6 aym [(6,100)] (.two .o (.two .o (.two (.two .o (.eE [(.s 9,.p 0),(.s 3,.r 100),(.m 0 0,.d)] [(.exit 0,[]),(.ret,[(.s 2,.c (.cX false))])] (.two .o (.two .o (.two (.two .o (.two (.pc [(.normal,[(.s 20,.p 1)])] .o .o) .o)) .o))))) .o))) (by kernel_rfl) fun c a=>by kernel_rfl
def t81:List (cq bt):=⟨81,[],[.v 12,.v 0],[12],fun c a=>Fj a.1 a.2.1⟩::t36
theorem ayo:cG (cT g) t81:=ayn.cons (Da rfl fun H ⟨x,n,_⟩ r h=>auy ⟨by kernel_rfl,by kernel_rfl,by kernel_rfl⟩ H x n r h)
def t37:List (cq bt):=⟨37,[],[.v 6,.v 10,.v 1],[12],fun c a=>CI a.1 a.2.1 a.2.2.1⟩::t81
theorem ayp:cG (cT g) t37:=c9 c6 ayo [(27,7)] (.two .o (.two .o (.two .o (.two (.two .o (.eE [(.s 16,.p 0),(.s 7,.r 12)] [(.exit 0,[(.s 7,.r 12)])] .o)) .o)))) (by kernel_rfl) fun c a=>by kernel_rfl
def t82:List (cq bt):=⟨82,[],[.v 0,.v 0],[1],fun c a=>nn a.1 a.2.1⟩::t37
theorem ayq:cG (cT g) t82:=c9 c6 ayp [] (.two .o (.pu [4] .o)) (by kernel_rfl) fun c a=>by kernel_rfl
def t88:List (cq bt):=⟨88,[],[.v 0,.v 0],[1],fun c a=>z1 a.1 a.2.1⟩::t82
theorem ayr:cG (cT g) t88:=c9 c6 ayq [] (.two .o (.pu [4] .o)) (by kernel_rfl) fun c a=>by kernel_rfl
def t83:List (cq bt):=⟨83,[],[.v 29,.v 15],[1],fun c a=>FA a.1 a.2.1⟩::t88
theorem ays:cG (cT g) t83:=c9 c6 ayr [] (.two .o (.two .o (.two (.two .o (.eE [(.s 5,.p 0),(.s 11,.p 0)] [(.exit 0,[]),(.ret,[(.s 4,.c (.cX false))])] (.two .o (.two .o (.two (.two .o (.two (.pc [(.normal,[(.s 37,.p 1)])] .o .o) .o)) .o))))) .o))) (by kernel_rfl) fun c a=>by kernel_rfl
def t66:List (cq bt):=⟨66,[],[.v 10,.f [8] 1],[0],fun c a=>aaF a.1 a.2.1⟩::t83
theorem ayt:cG (cT g) t66:=c9 c6 ays [] (.two .o (.two (.two .o (.eE [(.s 8,.p 0)] [(.exit 0,[]),(.ret,[(.s 4,.p 0)])] .o)) .o)) (by kernel_rfl) fun c a=>by kernel_rfl
def t157:List (cq bt):=⟨157,[],[.v 10,.f [8] 1],[1],fun c a=>PK a.1 a.2.1⟩::t66
theorem ayu:cG (cT g) t157:=c9 c6 ayt [] .o (by kernel_rfl) fun c a=>by kernel_rfl
def t158:List (cq bt):=⟨158,[16,29],[.v 8],[1],fun c a=>JL c.1 c.2 a.1⟩::t157
theorem ayv:cG (cT g) t158:=c9 c6 ayu [] (.two .o (.pc [(.normal,[(.s 4,.p 1)])] .o .o)) (by kernel_rfl) fun c a=>by kernel_rfl
def t84:List (cq bt):=⟨84,[],[.v 29,.v 16],[1],fun c a=>JN a.1 a.2.1⟩::t158
theorem ayw:cG (cT g) t84:=c9 c6 ayv [] (.two .o (.pc [(.normal,[(.s 4,.p 1)])] .o .o)) (by kernel_rfl) fun c a=>by kernel_rfl
def t159:List (cq bt):=⟨159,[],[.v 14,.v 14],[1],fun c a=>CJ a.1 a.2.1⟩::t84
theorem ayx:cG (cT g) t159:=c9 c6 ayw [] (.two .o (.two .o (.two (.two .o (.eE [(.s 13,.p 0)] [(.exit 0,[]),(.ret,[(.s 4,.c (.cX false))])] .o)) .o))) (by kernel_rfl) fun c a=>by kernel_rfl
def t85:List (cq bt):=⟨85,[],[.v 15,.v 0,.v 0,.v 0],[1],fun c a=>JP a.1 a.2.1 a.2.2.1 a.2.2.2.1⟩::t159
theorem ayy:cG (cT g) t85:=c9 c6 ayx [(14,13)] (.two .o (.pc [(.normal,[(.s 8,.p 1)])] .o .o)) (by kernel_rfl) fun c a=>by kernel_rfl
def t38:List (cq bt):=⟨38,[],[.v 29],[1],fun c a=>JQ a.1⟩::t85
theorem ayz:cG (cT g) t38:=c9 c6 ayy [] (.two .o (.two (.pu [23] .o) (.two (.two .o (.eE [(.s 28,.p 0)] [(.exit 0,[]),(.ret,[(.s 2,.c (.cX false))])] (.two .o (.two .o (.two (.two .o (.pc [(.normal,[]),(.ret,[(.s 2,.c (.cX false))])] (.two .o (.two .o (.two .o (.two (.pc [(.normal,[(.s 60,.p 1)])] .o .o) (.pc [(.normal,[(.s 61,.p 1)])] .o .o))))) (.two .o (.two (.two .o (.pc [(.normal,[(.s 6,.p 0),(.s 7,.p 0)])] .o (.pc [(.normal,[(.s 103,.p 1)])] .o .o))) .o)))) .o))))) .o))) (by kernel_rfl) fun c a=>by kernel_rfl
def t87:List (cq bt):=⟨87,[29],[.v 0],[1],fun c a=>JR c a.1⟩::t38
theorem ayA:cG (cT g) t87:=c9 c6 ayz [] (.two .o (.pu [3] .o)) (by kernel_rfl) fun c a=>by kernel_rfl
def t39:List (cq bt):=⟨39,[],[.v 29],[1],fun c a=>JS a.1⟩::t87
theorem ayB:cG (cT g) t39:=c9 c6 ayA [(17,2)] (.two .o (.two .o (.two (.two .o (.eE [(.s 10,.p 0),(.s 3,.r 11)] [(.exit 0,[(.s 3,.r 11)]),(.ret,[(.s 2,.c (.cX false))])] (.two .o (.two .o (.two (.two .o (.two .o (.pc [(.normal,[(.s 28,.p 1)])] .o .o))) .o))))) (.pc [(.normal,[(.s 2,.p 1)])] .o .o)))) (by kernel_rfl) fun c a=>by kernel_rfl
def t167:List (cq bt):=⟨167,[],[.v 0],[1],fun c a=>cmp_isNaN_int a.1⟩::t39
theorem ayC:cG (cT g) t167:=c9 c6 ayB [] .o (by kernel_rfl) fun c a=>by kernel_rfl
def t95:List (cq bt):=⟨95,[],[.v 0,.v 0],[0],fun c a=>cmp_Compare_int a.1 a.2.1⟩::t167
theorem ayD:cG (cT g) t95:=c9 c6 ayC [] .o (by kernel_rfl) fun c a=>by kernel_rfl
def t89:List (cq bt):=⟨89,[],[.v 6,.v 6],[0],fun c a=>FG a.1 a.2.1⟩::t95
theorem ayE:cG (cT g) t89:=c9 c6 ayD [] (.two .o (.two (.two .o (.eE [(.s 11,.p 0)] [(.exit 0,[]),(.ret,[(.s 4,.p 0)])] .o)) .o)) (by kernel_rfl) fun c a=>by kernel_rfl
def t13:List (cq bt):=⟨13,[],[.v 6,.v 10,.v 1,.v 0],[0,6,1],fun c a=>FJ a.1 a.2.1 a.2.2.1 a.2.2.2.1⟩::t89
theorem ayF:cG (cT g) t13:=c9 c6 ayE [(55,0)] (.two .o (.two (.pc [(.normal,[(.s 24,.p 1)])] .o .o) (.two (.two .o (.eE [(.s 27,.p 0)] [(.exit 0,[]),(.ret,[(.s 8,.p 0),(.s 9,.r 6),(.s 10,.c (.cX true))])] (.two .o (.two .o (.two (.two .o (.two .o (.two (.pc [(.normal,[(.s 51,.p 1)])] .o .o) (.two .o (.two (.two .o (.eE [(.s 13,.p 0),(.s 15,.p 0),(.s 14,.r 6),(.m 1 0,.d)] [(.exit 2,[(.s 14,.r 6),(.m 1 0,.d)])] .o)) .o))))) .o))))) .o))) (by kernel_rfl) fun c a=>by kernel_rfl
def t161:List (cq bt):=⟨161,[],[.v 29,.v 23],[1],fun c a=>JV a.1 a.2.1⟩::t13
theorem ayG:cG (cT g) t161:=c9 c6 ayF [] (.two .o (.two .o (.two .o (.two .o (.two .o (.pc [(.normal,[(.s 51,.p 1)])] .o (.two (.pu [4] .o) (.pu [4] .o)))))))) (by kernel_rfl) fun c a=>by kernel_rfl
def t267:List (cq bt):=⟨267,[],[.v 22,.f [15] 1],[0],fun c a=>aaJ a.1 a.2.1⟩::t161
theorem ayH:cG (cT g) t267:=c9 c6 ayG [] (.two .o (.two (.two .o (.eE [(.s 8,.p 0)] [(.exit 0,[]),(.ret,[(.s 4,.p 0)])] .o)) .o)) (by kernel_rfl) fun c a=>by kernel_rfl
def t162:List (cq bt):=⟨162,[],[.v 22,.f [15] 1],[1],fun c a=>PQ a.1 a.2.1⟩::t267
theorem ayI:cG (cT g) t162:=c9 c6 ayH [] .o (by kernel_rfl) fun c a=>by kernel_rfl
def t163:List (cq bt):=⟨163,[29],[.v 15],[1],fun c a=>JW c a.1⟩::t162
theorem ayJ:cG (cT g) t163:=c9 c6 ayI [] .o (by kernel_rfl) fun c a=>by kernel_rfl
def t90:List (cq bt):=⟨90,[],[.v 29,.v 25],[1],fun c a=>JX a.1 a.2.1⟩::t163
theorem ayK:cG (cT g) t90:=c9 c6 ayJ [] (.two .o (.two .o (.two (.two .o (.eE [(.s 5,.p 0),(.s 13,.p 0)] [(.exit 0,[]),(.ret,[(.s 4,.c (.cX false))])] (.two .o (.two .o (.two (.two .o (.two (.pc [(.normal,[(.s 39,.p 1)])] .o .o) .o)) .o))))) (.two .o (.two (.two .o (.eE [(.s 5,.p 0),(.s 46,.p 0)] [(.exit 2,[]),(.ret,[(.s 4,.c (.cX false))])] (.two .o (.two .o (.two (.two .o (.two (.pc [(.normal,[(.s 59,.p 1)])] .o .o) .o)) .o))))) (.pc [(.normal,[(.s 4,.p 1)])] .o .o)))))) (by kernel_rfl) fun c a=>by kernel_rfl
def t40:List (cq bt):=⟨40,[],[.v 29],[1],fun c a=>J1 a.1⟩::t90
theorem ayL:cG (cT g) t40:=c9 c6 ayK [] (.two .o (.two .o (.two (.two .o (.eE [(.s 18,.p 0)] [(.exit 0,[]),(.ret,[(.s 2,.c (.cX false))])] (.two .o (.two .o (.two (.two .o (.two (.pc [(.normal,[(.s 45,.p 1)])] .o .o) (.two (.two .o (.eE [(.s 55,.p 0)] [(.exit 2,[]),(.ret,[(.s 2,.c (.cX false))])] (.two .o (.two .o (.two (.two .o (.two .o (.pc [(.normal,[(.s 86,.p 1)])] .o .o))) .o))))) (.pc [(.normal,[]),(.ret,[(.s 2,.c (.cX false))])] (.two .o (.two (.two .o (.pc [(.normal,[(.s 116,.p 1)])] .o .o)) .o)) .o)))) .o))))) .o))) (by kernel_rfl) fun c a=>by kernel_rfl
def t41:List (cq bt):=⟨41,[],[.v 29],[1],fun c a=>aaA a.1⟩::t40
theorem ayM:cG (cT g) t41:=ayL.cons (Da rfl fun H ⟨j,_⟩ r h=>by
 cases h;exact Jq (spec:=Dq) (by kernel_rfl) (by simp[Ld,cg,bx,aba]) (avb j) H)
def t11:List (cq bt):=⟨11,[],[.v 28],[1],fun c a=>CL a.1⟩::t41
theorem ayN:cG (cT g) t11:=c9 c6 ayM [] (.two .o (.two (.pc [(.normal,[(.s 21,.p 1)])] .o .o) (.two .lt (.pc [(.normal,[(.s 2,.p 1)])] .o .o)))) (by kernel_rfl) fun c a=>by kernel_rfl
def t70:List (cq bt):=⟨70,[],[.v 6,.v 10,.v 1],[0],fun c a=>PU a.1 a.2.1 a.2.2.1⟩::t11
theorem ayO:cG (cT g) t70:=c9 c6 ayN [] .o (by kernel_rfl) fun c a=>by kernel_rfl
def t31:List (cq bt):=⟨31,[],[.v 28,.v 6],[1],fun c a=>J2 a.1 a.2.1⟩::t70
theorem ayP:cG (cT g) t31:=c9 c6 ayO [] (.two .o (.pc [(.normal,[(.s 4,.p 1)])] .o .o)) (by kernel_rfl) fun c a=>by kernel_rfl
def t30:List (cq bt):=⟨30,[],[.v 6,.v 10],[1],fun c a=>J4 a.1 a.2.1⟩::t31
theorem ayQ:cG (cT g) t30:=c9 c6 ayP [] (.two .o (.two (.two .o (.eE [(.s 5,.p 0)] [(.exit 0,[]),(.ret,[(.s 4,.c (.cX false))])] (.two .o (.two (.pc [(.normal,[(.s 27,.p 1)])] .o .o) .o)))) (.pu [4] .o))) (by kernel_rfl) fun c a=>by kernel_rfl
def t7:List (cq bt):=⟨7,[],[.v 28],[1],fun c a=>Kb a.1⟩::t30
theorem nU:cG (cT g) t7:=c9 c6 ayQ [] (.two .o (.two (.pc [(.normal,[(.s 56,.p 1)])] .o .o) (.two (.two .o (.eE [(.s 3,.p 0)] [(.exit 0,[]),(.ret,[(.s 2,.c (.cX false))])] .o)) (.two (.two .o (.eE [(.s 4,.p 0)] [(.exit 2,[]),(.ret,[(.s 2,.c (.cX false))])] .o)) (.two (.two .o (.eE [(.s 5,.p 0)] [(.exit 4,[]),(.ret,[(.s 2,.c (.cX false))])] (.two .o (.two (.pc [(.normal,[(.s 111,.p 1)])] .o .o) .o)))) (.two (.two .o (.eE [(.s 6,.p 0)] [(.exit 6,[]),(.ret,[(.s 2,.c (.cX false))])] (.two .o (.two (.two .o (.two (.pc [(.normal,[(.s 150,.p 1)])] .o .o) (.two .o (.eE [(.s 8,.p 0)] [(.exit 8,[]),(.ret,[(.s 2,.c (.cX false))])] .o)))) .o)))) .o)))))) (by kernel_rfl) fun c a=>by kernel_rfl
def t42:List (cq bt):=⟨42,[],[.v 28,.v 1],[12],fun c a=>PY a.1 a.2.1⟩::t7
theorem ayR:cG (cT g) t42:=c9 c6 nU [] .o (by kernel_rfl) fun c a=>by kernel_rfl
def t12:List (cq bt):=⟨12,[],[.v 28],[12],fun c a=>Kc a.1⟩::t42
theorem ayS:cG (cT g) t12:=c9 c6 ayR [] .o (by kernel_rfl) fun c a=>by kernel_rfl
def t15:List (cq bt):=⟨15,[],[.v 6],[1],fun c a=>Kk a.1⟩::t12
theorem ayT:cG (cT g) t15:=c9 c6 ayS [] (.two .o (.two (.two .o (.eE [(.s 3,.p 0)] [(.exit 0,[]),(.ret,[(.s 2,.c (.cX false))])] (.two .o (.two (.pc [(.normal,[(.s 21,.p 1)])] .o .o) .o)))) .o)) (by kernel_rfl) fun c a=>by kernel_rfl
def t45:List (cq bt):=⟨45,[],[.v 0],[1],fun c a=>P8 a.1⟩::t15
theorem ayU:cG (cT g) t45:=c9 c6 ayT [] (.two .o (.pu [2] .o)) (by kernel_rfl) fun c a=>by kernel_rfl
def t16:List (cq bt):=⟨16,[],[.v 21],[1],fun c a=>FY a.1⟩::t45
theorem ayV:cG (cT g) t16:=c9 c6 ayU [] (.two .o (.two (.two .o (.eE [(.s 3,.p 0)] [(.exit 0,[]),(.ret,[(.s 2,.c (.cX false))])] .o)) .o)) (by kernel_rfl) fun c a=>by kernel_rfl
def t17:List (cq bt):=⟨17,[],[.v 6,.v 21],[6],fun c a=>xW a.1 a.2.1⟩::t16
theorem ayW:cG (cT g) t17:=ack c6 ayV [] [(46,0,8)] afi (.two .o (.two .o (.two (.two .o (.eE [(.s 12,.p 0),(.s 5,.r 6),(.m 0 0,.d)] [(.exit 0,[(.s 5,.r 6),(.m 0 0,.d)])] (.two .o (.two .o (.two (.two .o (.pu [25] .o)) .o))))) .o))) (by kernel_rfl) fun c a=>by kernel_rfl
def t18:List (cq bt):=⟨18,[],[.v 6,.v 6],[1],fun c a=>Ab a.1 a.2.1⟩::t17
theorem ayX:cG (cT g) t18:=c9 c6 ayW [] (.two .o (.two .o (.two (.two .o (.eE [(.s 13,.p 0)] [(.exit 0,[]),(.ret,[(.s 4,.c (.cX false))])] .o)) .o))) (by kernel_rfl) fun c a=>by kernel_rfl
def t47:List (cq bt):=⟨47,[],[.v 14],[14],fun c a=>Cx a.1⟩::t18
theorem ayY:cG (cT g) t47:=ayX.cons (Da rfl fun H ⟨x,_⟩ r h=>Jq (spec:=yw) (by kernel_rfl) (axZ x) (ax3 h) H)
def t19:List (cq bt):=⟨19,[],[.v 33],[21],fun c a=>Kn a.1⟩::t47
theorem ayZ:cG (cT g) t19:=c9 c6 ayY [(29,13),(34,0),(46,20)] (.two .o (.two .o (.two (.two .o (.eE [(.s 13,.p 0),(.s 3,.r 14)] [(.exit 0,[(.s 3,.r 14)])] (.two .o (.two .o (.two (.two .o (.two .o (.eE [(.s 19,.p 0),(.s 3,.r 14),(.m 0 0,.d)] [(.exit 2,[(.s 3,.r 14),(.m 0 0,.d)])] .o))) .o))))) (.two .o (.two (.two .o (.eE [(.s 36,.p 0),(.s 8,.r 21)] [(.exit 4,[(.s 8,.r 21)])] .o)) .o))))) (by kernel_rfl) fun c a=>by kernel_rfl
def t96:List (cq bt):=⟨96,[],[.v 16,.v 0],[1],fun c a=>F3 a.1 a.2.1⟩::t19
theorem ay0:cG (cT g) t96:=c9 c6 ayZ [] (.two .o (.pu [4] .o)) (by kernel_rfl) fun c a=>by kernel_rfl
def t49:List (cq bt):=⟨49,[],[.v 6,.v 0],[0],fun c a=>aaM a.1 a.2.1⟩::t96
theorem ay1:cG (cT g) t49:=c9 c6 ay0 [] (.two .o (.two (.two .o (.eE [(.s 8,.p 0)] [(.exit 0,[]),(.ret,[(.s 4,.p 0)])] .o)) .o)) (by kernel_rfl) fun c a=>by kernel_rfl
def t22:List (cq bt):=⟨22,[],[.v 6,.v 0],[1],fun c a=>Ac a.1 a.2.1⟩::t49
theorem ay2:cG (cT g) t22:=c9 c6 ay1 [] .o (by kernel_rfl) fun c a=>by kernel_rfl
def t168:List (cq bt):=⟨168,[6,16],[.v 0,.v 0],[1],fun c a=>F4 c.1 c.2 a.1 a.2.1⟩::t22
theorem ay3:cG (cT g) t168:=c9 c6 ay2 [] .o (by kernel_rfl) fun c a=>by kernel_rfl
def t97:List (cq bt):=⟨97,[],[.v 16,.v 6],[6],fun c a=>Kp a.1 a.2.1⟩::t168
theorem ay4:cG (cT g) t97:=ack c6 ay3 [(26,0),(27,6),(76,0),(78,6)] [(46,0,8)] afi (.two .o (.two .o (.two .o (.two .o (.two (.two .o (.eE [(.s 21,.p 0),(.s 6,.r 32)] [(.exit 0,[(.s 6,.r 32)])] .o)) (.two (.eE [(.s 6,.r 32),(.m 2 0,.d)] [(.exit 2,[]),(.ret,[(.s 4,.p 6)])] (.two .o (.two .o (.two (.two .o (.eE [(.s 35,.p 0),(.s 8,.r 32)] [(.exit 4,[(.s 8,.r 32)]),(.ret,[(.s 4,.p 6)])] (.two .o (.two .o (.two (.two .o (.two .o (.two .o (.two .o (.eE [(.s 12,.p 0),(.s 8,.r 32),(.m 4 0,.d)] [(.exit 6,[(.s 8,.r 32),(.m 4 0,.d)])] (.two .o (.two (.pc [(.normal,[(.s 71,.p 1)])] .o .o) .o))))))) .o))))) .o)))) .o)))))) (by kernel_rfl) fun c a=>by kernel_rfl
def t98:List (cq bt):=⟨98,[],[.v 0,.v 0,.v 0],[1],fun c a=>Kq a.1 a.2.1 a.2.2.1⟩::t97
theorem ay5:cG (cT g) t98:=c9 c6 ay4 [] (.two .o (.two .o (.pu [6] .o))) (by kernel_rfl) fun c a=>by kernel_rfl
def t48:List (cq bt):=⟨48,[],[.v 16,.v 6],[1],fun c a=>qp a.1 a.2.1⟩::t98
theorem ay6:cG (cT g) t48:=c9 c6 ay5 [] (.two .o (.two (.two .o (.two (.pc [(.normal,[(.s 4,.p 1)])] .o .o) .o)) (.two .o (.two (.two .o (.eE [(.s 5,.p 0),(.s 6,.p 0),(.s 27,.p 0)] [(.exit 0,[(.s 5,.p 0),(.s 6,.p 0)]),(.ret,[(.s 4,.c (.cX false))])] (.two .o (.two .o (.two (.two .o (.two (.pu [40] .o) .o)) .o))))) (.pc [(.normal,[(.s 4,.p 1)])] .o .o))))) (by kernel_rfl) fun c a=>by kernel_rfl
def t20:List (cq bt):=⟨20,[],[.v 28,.v 6],[6],fun c a=>Kr a.1 a.2.1⟩::t48
theorem ay7:cG (cT g) t20:=c9 c6 ay6 [(26,0)] (.two .o (.two .o (.two .o (.two (.two .o (.eE [(.s 15,.p 0),(.s 5,.r 6)] [(.exit 0,[(.s 5,.r 6)])] .o)) .o)))) (by kernel_rfl) fun c a=>by kernel_rfl
def t21:List (cq bt):=⟨21,[],[.v 15,.v 21],[0],fun c a=>Ga a.1 a.2.1⟩::t20
theorem ay8:cG (cT g) t21:=c9 c6 ay7 [] (.two .o (.two .o (.two (.two .o (.eE [(.s 5,.p 0),(.s 13,.p 0)] [(.exit 0,[(.s 5,.p 0)])] (.two .o (.two .o (.two (.two .o (.two .o (.eE [(.s 5,.p 0),(.s 19,.p 0)] [(.exit 2,[(.s 5,.p 0)])] .o))) .o))))) .o))) (by kernel_rfl) fun c a=>by kernel_rfl
def t5:List (cq bt):=⟨5,[],[.v 28,.v 6,.v 21,.v 21],[1],fun c a=>Kt a.1 a.2.1 a.2.2.1 a.2.2.2.1⟩::t21
theorem fi:cG (cT g) t5:=c9 c6 ay8 [(67,21)] (.two .o (.two .o (.two (.pc [(.normal,[(.s 48,.p 1)])] .o .o) (.two .o (.two (.pc [(.normal,[(.s 79,.p 1)])] .o .o) (.two .o (.two (.two .o (.eE [(.s 86,.p 0)] [(.exit 0,[]),(.ret,[(.s 8,.c (.cX false))])] (.two .o (.two .o (.two (.two .o (.two .o (.two .o (.two (.two .o (.eE [(.s 13,.p 0),(.s 107,.p 0)] [(.exit 2,[(.s 13,.p 0)])] .o)) .o)))) .o))))) .o))))))) (by kernel_rfl) fun c a=>by kernel_rfl
theorem ay9:cT g 5=some (.code (AK (cT g) 5)):=(AL (J:=bt) (e:=⟨5,[],[.v 28,.v 6,.v 21,.v 21],[1],fun c a=>Kt a.1 a.2.1 a.2.2.1 a.2.2.2.1⟩) (by kernel_rfl)).1
theorem aza (m:Model)(st:ad Int)(a b:ad Change)(b7:b2 st.l)(ha:b2 a.l)(hb:b2 b.l):bY (cT g) (.fn 5 [] []) [wm m,bb 1 aI st,bb 2 nj a,bb 2 nj b] []=some (.bool true,[],0):=fi.hd [] [] () (m,st,a,b,()) [] _ true rfl (.nil []) ⟨_,rfl,_,rfl,_,rfl,_,rfl,rfl⟩ (axb m st a b b7 ha hb)
end
end Go.Abs.bs
