/- Texts of this claim, joined and written short by a program. -/
import Derived.Test.YtgkcikhegodchaaGreatDoorP34
import Derived.Test.YtgkcikhegodchaaGreatDoorP33
import Derived.Test.YtgkcikhegodchaaGreatDoorP36
import Derived.Test.YtgkcikhegodchaaGreatDoorP35
import Derived.Test.YtgkcikhegodchaaGreatDoorP00
set_option linter.unusedVariables false
set_option linter.unusedSimpArgs false
set_option linter.unusedSectionVars false
set_option maxRecDepth 100000
namespace Go.Abs.bA
open Go Go.Abs Go.Abs.hv Go.Abs.Lex
noncomputable section
variable{g:Nat->Option Obj}
def t0:List (ba aK):=[]
theorem fP:bg (bl g) t0:=fun _ h=>by cases h
def t6:List (ba aK):=⟨6,[],[],[1],fun c a=>Dt⟩::t0
theorem gV:bg (bl g) t6:=fP.cons (r2 rfl fun H a r h=>by
 cases h;exact Dh (spec:=Al [] (.bool true)) (by kernel_rfl) rfl (by kernel_rfl) H)
def t245:List (ba aK):=⟨245,[],[.v 3],[1],fun c a=>yz a.1⟩::t6
theorem IL:bg (bl g) t245:=bF bD gV [] (.two .o (.pu [2] .o)) (by kernel_rfl) fun c a=>by kernel_rfl
def t248:List (ba aK):=⟨248,[],[.v 3],[1],fun c a=>yA a.1⟩::t245
theorem IM:bg (bl g) t248:=bF bD IL [] (.two .o (.pu [2] .o)) (by kernel_rfl) fun c a=>by kernel_rfl
def t247:List (ba aK):=⟨247,[],[.v 3],[1],fun c a=>Dy a.1⟩::t248
theorem IP:bg (bl g) t247:=bF bD IM [] (.two .o (.pc [(.normal,[(.s 2,.p 1)])] .o .o)) (by kernel_rfl) fun c a=>by kernel_rfl
def t250:List (ba aK):=⟨250,[],[.v 3],[1],fun c a=>AK a.1⟩::t247
theorem IQ:bg (bl g) t250:=bF bD IP [] (.two .o (.pu [2] .o)) (by kernel_rfl) fun c a=>by kernel_rfl
def t434:List (ba aK):=⟨434,[],[.v 2,.v 2],[1],fun c a=>K0 a.1 a.2.1⟩::t250
theorem Ug:bg (bl g) t434:=bF bD IQ [] (.two .o (.pc [(.normal,[(.s 4,.p 1)])] .o .o)) (by kernel_rfl) fun c a=>by kernel_rfl
def t370:List (ba aK):=⟨370,[],[.v 2,.v 2],[1],fun c a=>Gf a.1 a.2.1⟩::t434
theorem Uh:bg (bl g) t370:=bF bD Ug [] .o (by kernel_rfl) fun c a=>by kernel_rfl
def t371:List (ba aK):=⟨371,[],[.v 2,.v 3],[0],fun c a=>strings_IndexByte a.1 a.2.1⟩::t370
theorem Ui:bg (bl g) t371:=Uh.cons (r2 rfl fun H ⟨s,c,_⟩ r h=>by
 cases h;exact Dh (spec:=x5) (by kernel_rfl) rfl rfl H)
def t249:List (ba aK):=⟨249,[],[.v 2],[0],fun c a=>AG a.1⟩::t371
theorem IU:bg (bl g) t249:=bF bD Ui [(5,2)] (.two .o (.two (.two .o (.cy [(.s 7,.p 0)] [(.exit 0,[]),(.ret,[(.s 2,.c (.int .i64 2))])] .o)) (.two (.pc [(.normal,[(.s 22,.p 1)])] .o .o) .o))) (by kernel_rfl) fun c a=>by kernel_rfl
def t251:List (ba aK):=⟨251,[],[.v 2],[1],fun c a=>Dv a.1⟩::t249
theorem IV:bg (bl g) t251:=bF bD IU [] (.two .o (.pc [(.normal,[(.s 2,.p 1)])] .o .o)) (by kernel_rfl) fun c a=>by kernel_rfl
def t246:List (ba aK):=⟨246,[],[.v 2,.f [3] 1],[0],fun c a=>AJ a.1 a.2.1⟩::t251
theorem IW:bg (bl g) t246:=bF bD IV [] (.two .o (.two .o (.two (.cy [(.s 5,.p 0)] [(.exit 0,[(.s 5,.p 0)])] (.two (.pc [(.normal,[(.s 16,.p 1)])] .o .o) .o)) .o))) (by kernel_rfl) fun c a=>by kernel_rfl
def t369:List (ba aK):=⟨369,[],[.v 3],[1],fun c a=>AL a.1⟩::t246
theorem IX:bg (bl g) t369:=bF bD IW [] .o (by kernel_rfl) fun c a=>by kernel_rfl
def t244:List (ba aK):=⟨244,[],[.v 2],[0],fun c a=>Dx a.1⟩::t369
theorem IY:bg (bl g) t244:=bF bD IX [] (.two .o (.two .o (.two (.cy [(.s 3,.p 0)] [(.exit 0,[(.s 3,.p 0)]),(.ret,[(.s 2,.p 0)])] .o) .o))) (by kernel_rfl) fun c a=>by kernel_rfl
def t138:List (ba aK):=⟨138,[],[.v 2],[0],fun c a=>Gd a.1⟩::t244
theorem Uj:bg (bl g) t138:=IY.cons (r2 rfl fun H ⟨w,_⟩ r h=>by
 cases h;exact age ⟨aeE IL.hd,aeF IM.hd,aeG IP.hd,aeH IQ.hd,aeI IV.hd,aeJ IU.hd,aeK IW.hd,aeL IY.hd,aeM IX.hd,by kernel_rfl,by kernel_rfl,by kernel_rfl,by kernel_rfl,⟨x4,by kernel_rfl,by kernel_rfl⟩⟩ w H)
def t43:List (ba aK):=⟨43,[],[.v 8],[1],fun c a=>AM a.1⟩::t138
theorem Uk:bg (bl g) t43:=bF bD Uj [] (.two .o (.pu [2] .o)) (by kernel_rfl) fun c a=>by kernel_rfl
def t44:List (ba aK):=⟨44,[],[.v 6,.v 6],[0],fun c a=>ud a.1 a.2.1⟩::t43
theorem Ul:bg (bl g) t44:=bF bD Uk [] (.two .o (.two .o (.two (.two .o (.cy [(.s 5,.p 0),(.s 10,.p 0)] [(.exit 0,[(.s 5,.p 0)])] .o)) .o))) (by kernel_rfl) fun c a=>by kernel_rfl
def t264:List (ba aK):=⟨264,[],[.v 9,.v 1],[0],fun c a=>QS a.1 a.2.1⟩::t44
theorem Um:bg (bl g) t264:=bF bD Ul [] (.two .o (.two (.two .o (.cy [(.s 8,.p 0)] [(.exit 0,[]),(.ret,[(.s 4,.p 0)])] .o)) .o)) (by kernel_rfl) fun c a=>by kernel_rfl
def t153:List (ba aK):=⟨153,[],[.v 9,.v 1],[1],fun c a=>K2 a.1 a.2.1⟩::t264
theorem Un:bg (bl g) t153:=bF bD Um [] .o (by kernel_rfl) fun c a=>by kernel_rfl
def t75:List (ba aK):=⟨75,[],[.v 9],[1],fun c a=>AO a.1⟩::t153
theorem Uo:bg (bl g) t75:=bF bD Un [] .o (by kernel_rfl) fun c a=>by kernel_rfl
def t160:List (ba aK):=⟨160,[],[.v 6,.f [0] 1],[0],fun c a=>QT a.1 a.2.1⟩::t75
theorem Up:bg (bl g) t160:=bF bD Uo [] (.two .o (.two (.two .o (.cy [(.s 8,.p 0)] [(.exit 0,[]),(.ret,[(.s 4,.p 0)])] .o)) .o)) (by kernel_rfl) fun c a=>by kernel_rfl
def t86:List (ba aK):=⟨86,[],[.v 6,.f [0] 1],[1],fun c a=>Dz a.1 a.2.1⟩::t160
theorem Uq:bg (bl g) t86:=bF bD Up [] .o (by kernel_rfl) fun c a=>by kernel_rfl
def t78:List (ba aK):=⟨78,[],[.v 0,.v 0,.v 0],[1],fun c a=>Gi a.1 a.2.1 a.2.2.1⟩::t86
theorem Ur:bg (bl g) t78:=bF bD Uq [] (.two .o (.pu [6] .o)) (by kernel_rfl) fun c a=>by kernel_rfl
def t154:List (ba aK):=⟨154,[],[.v 0],[1],fun c a=>K3 a.1⟩::t78
theorem Us:bg (bl g) t154:=bF bD Ur [] .o (by kernel_rfl) fun c a=>by kernel_rfl
def t76:List (ba aK):=⟨76,[],[.v 6],[1],fun c a=>Gj a.1⟩::t154
theorem Ut:bg (bl g) t76:=bF bD Us [] .o (by kernel_rfl) fun c a=>by kernel_rfl
def t77:List (ba aK):=⟨77,[],[.v 2],[1],fun c a=>yB a.1⟩::t76
theorem Uu:bg (bl g) t77:=bF bD Ut [] (.two .o (.pc [(.normal,[(.s 2,.p 1)])] .o .o)) (by kernel_rfl) fun c a=>by kernel_rfl
def t155:List (ba aK):=⟨155,[6],[.v 0],[1],fun c a=>K4 c a.1⟩::t77
theorem Uv:bg (bl g) t155:=bF bD Uu [] (.two .o (.pu [3] .o)) (by kernel_rfl) fun c a=>by kernel_rfl
def t79:List (ba aK):=⟨79,[],[.v 6,.v 6],[1],fun c a=>Gk a.1 a.2.1⟩::t155
theorem Uw:bg (bl g) t79:=bF bD Uv [] (.two .o (.pc [(.normal,[(.s 4,.p 1)])] .o .o)) (by kernel_rfl) fun c a=>by kernel_rfl
def t80:List (ba aK):=⟨80,[],[.v 8],[1],fun c a=>Gl a.1⟩::t79
theorem Ux:bg (bl g) t80:=bF bD Uw [] (.two .o (.pc [(.normal,[]),(.ret,[(.s 2,.p 1)])] (.two .o (.pc [(.normal,[(.s 5,.p 1)])] .o (.two (.pu [2] .o) .o))) .o)) (by kernel_rfl) fun c a=>by kernel_rfl
def t35:List (ba aK):=⟨35,[],[.v 6,.v 10],[1],fun c a=>yD a.1 a.2.1⟩::t80
theorem Uy:bg (bl g) t35:=bF bD Ux [(19,1),(22,100),(46,1)] (.two .o (.two .o (.two .o (.two .o (.two (.two .o (.cy [(.s 25,.p 0),(.m 2 0,.p 0),(.m 1 0,.p 0),(.s 5,.r 100),(.m 0 0,.d)] [(.exit 0,[(.m 2 0,.p 0),(.m 1 0,.p 0)]),(.ret,[(.s 4,.c (.b2 false))])] .o)) (.pu [4] .o)))))) (by kernel_rfl) fun c a=>by kernel_rfl
def t36:List (ba aK):=⟨36,[],[.v 11],[1],fun c a=>DC a.1⟩::t35
theorem Uz:bg (bl g) t36:=bF bD Uy [(6,100)] (.two .o (.two .o (.two (.two .o (.cy [(.s 9,.p 0),(.s 3,.r 100),(.m 0 0,.d)] [(.exit 0,[]),(.ret,[(.s 2,.c (.b2 false))])] (.two .o (.two .o (.two (.two .o (.two (.pc [(.normal,[(.s 20,.p 1)])] .o .o) .o)) .o))))) .o))) (by kernel_rfl) fun c a=>by kernel_rfl
def t81:List (ba aK):=⟨81,[],[.v 12,.v 0],[12],fun c a=>Ds a.1 a.2.1⟩::t36
theorem UA:bg (bl g) t81:=Uz.cons (r2 rfl fun H ⟨x,n,_⟩ r h=>agl ⟨by kernel_rfl,by kernel_rfl,by kernel_rfl⟩ H x n r h)
def t37:List (ba aK):=⟨37,[],[.v 6,.v 10,.v 1],[12],fun c a=>AR a.1 a.2.1 a.2.2.1⟩::t81
theorem UB:bg (bl g) t37:=bF bD UA [(27,7)] (.two .o (.two .o (.two .o (.two (.two .o (.cy [(.s 16,.p 0),(.s 7,.r 12)] [(.exit 0,[(.s 7,.r 12)])] .o)) .o)))) (by kernel_rfl) fun c a=>by kernel_rfl
def t82:List (ba aK):=⟨82,[],[.v 0,.v 0],[1],fun c a=>nc a.1 a.2.1⟩::t37
theorem UC:bg (bl g) t82:=bF bD UB [] (.two .o (.pu [4] .o)) (by kernel_rfl) fun c a=>by kernel_rfl
def t88:List (ba aK):=⟨88,[],[.v 0,.v 0],[1],fun c a=>yE a.1 a.2.1⟩::t82
theorem UD:bg (bl g) t88:=bF bD UC [] (.two .o (.pu [4] .o)) (by kernel_rfl) fun c a=>by kernel_rfl
def t83:List (ba aK):=⟨83,[],[.v 29,.v 15],[1],fun c a=>DD a.1 a.2.1⟩::t88
theorem UE:bg (bl g) t83:=bF bD UD [] (.two .o (.two .o (.two (.two .o (.cy [(.s 5,.p 0),(.s 11,.p 0)] [(.exit 0,[]),(.ret,[(.s 4,.c (.b2 false))])] (.two .o (.two .o (.two (.two .o (.two (.pc [(.normal,[(.s 37,.p 1)])] .o .o) .o)) .o))))) .o))) (by kernel_rfl) fun c a=>by kernel_rfl
def t66:List (ba aK):=⟨66,[],[.v 10,.f [8] 1],[0],fun c a=>QX a.1 a.2.1⟩::t83
theorem UF:bg (bl g) t66:=bF bD UE [] (.two .o (.two (.two .o (.cy [(.s 8,.p 0)] [(.exit 0,[]),(.ret,[(.s 4,.p 0)])] .o)) .o)) (by kernel_rfl) fun c a=>by kernel_rfl
def t157:List (ba aK):=⟨157,[],[.v 10,.f [8] 1],[1],fun c a=>K5 a.1 a.2.1⟩::t66
theorem UG:bg (bl g) t157:=bF bD UF [] .o (by kernel_rfl) fun c a=>by kernel_rfl
def t158:List (ba aK):=⟨158,[16,29],[.v 8],[1],fun c a=>Gs c.1 c.2 a.1⟩::t157
theorem UH:bg (bl g) t158:=bF bD UG [] (.two .o (.pc [(.normal,[(.s 4,.p 1)])] .o .o)) (by kernel_rfl) fun c a=>by kernel_rfl
def t84:List (ba aK):=⟨84,[],[.v 29,.v 16],[1],fun c a=>Gt a.1 a.2.1⟩::t158
theorem UI:bg (bl g) t84:=bF bD UH [] (.two .o (.pc [(.normal,[(.s 4,.p 1)])] .o .o)) (by kernel_rfl) fun c a=>by kernel_rfl
def t159:List (ba aK):=⟨159,[],[.v 14,.v 14],[1],fun c a=>AV a.1 a.2.1⟩::t84
theorem UJ:bg (bl g) t159:=bF bD UI [] (.two .o (.two .o (.two (.two .o (.cy [(.s 13,.p 0)] [(.exit 0,[]),(.ret,[(.s 4,.c (.b2 false))])] .o)) .o))) (by kernel_rfl) fun c a=>by kernel_rfl
def t85:List (ba aK):=⟨85,[],[.v 15,.v 0,.v 0,.v 0],[1],fun c a=>Gu a.1 a.2.1 a.2.2.1 a.2.2.2.1⟩::t159
theorem UK:bg (bl g) t85:=bF bD UJ [(14,13)] (.two .o (.pc [(.normal,[(.s 8,.p 1)])] .o .o)) (by kernel_rfl) fun c a=>by kernel_rfl
def t38:List (ba aK):=⟨38,[],[.v 29],[1],fun c a=>Gx a.1⟩::t85
theorem UL:bg (bl g) t38:=bF bD UK [] (.two .o (.two (.pu [23] .o) (.two (.two .o (.cy [(.s 28,.p 0)] [(.exit 0,[]),(.ret,[(.s 2,.c (.b2 false))])] (.two .o (.two .o (.two (.two .o (.pc [(.normal,[]),(.ret,[(.s 2,.c (.b2 false))])] (.two .o (.two .o (.two .o (.two (.pc [(.normal,[(.s 60,.p 1)])] .o .o) (.pc [(.normal,[(.s 61,.p 1)])] .o .o))))) (.two .o (.two (.two .o (.pc [(.normal,[(.s 6,.p 0),(.s 7,.p 0)])] .o (.pc [(.normal,[(.s 103,.p 1)])] .o .o))) .o)))) .o))))) .o))) (by kernel_rfl) fun c a=>by kernel_rfl
def t87:List (ba aK):=⟨87,[29],[.v 0],[1],fun c a=>Gy c a.1⟩::t38
theorem UM:bg (bl g) t87:=bF bD UL [] (.two .o (.pu [3] .o)) (by kernel_rfl) fun c a=>by kernel_rfl
def t39:List (ba aK):=⟨39,[],[.v 29],[1],fun c a=>GA a.1⟩::t87
theorem UN:bg (bl g) t39:=bF bD UM [(17,2)] (.two .o (.two .o (.two (.two .o (.cy [(.s 10,.p 0),(.s 3,.r 11)] [(.exit 0,[(.s 3,.r 11)]),(.ret,[(.s 2,.c (.b2 false))])] (.two .o (.two .o (.two (.two .o (.two .o (.pc [(.normal,[(.s 28,.p 1)])] .o .o))) .o))))) (.pc [(.normal,[(.s 2,.p 1)])] .o .o)))) (by kernel_rfl) fun c a=>by kernel_rfl
def t167:List (ba aK):=⟨167,[],[.v 0],[1],fun c a=>cmp_isNaN_int a.1⟩::t39
theorem UO:bg (bl g) t167:=bF bD UN [] .o (by kernel_rfl) fun c a=>by kernel_rfl
def t95:List (ba aK):=⟨95,[],[.v 0,.v 0],[0],fun c a=>cmp_Compare_int a.1 a.2.1⟩::t167
theorem UP:bg (bl g) t95:=bF bD UO [] .o (by kernel_rfl) fun c a=>by kernel_rfl
def t89:List (ba aK):=⟨89,[],[.v 6,.v 6],[0],fun c a=>DF a.1 a.2.1⟩::t95
theorem UQ:bg (bl g) t89:=bF bD UP [] (.two .o (.two (.two .o (.cy [(.s 11,.p 0)] [(.exit 0,[]),(.ret,[(.s 4,.p 0)])] .o)) .o)) (by kernel_rfl) fun c a=>by kernel_rfl
def t13:List (ba aK):=⟨13,[],[.v 6,.v 10,.v 1,.v 0],[0,6,1],fun c a=>ml a.1 a.2.1 a.2.2.1 a.2.2.2.1⟩::t89
theorem IZ:bg (bl g) t13:=bF bD UQ [(55,0)] (.two .o (.two (.pc [(.normal,[(.s 24,.p 1)])] .o .o) (.two (.two .o (.cy [(.s 27,.p 0)] [(.exit 0,[]),(.ret,[(.s 8,.p 0),(.s 9,.r 6),(.s 10,.c (.b2 true))])] (.two .o (.two .o (.two (.two .o (.two .o (.two (.pc [(.normal,[(.s 51,.p 1)])] .o .o) (.two .o (.two (.two .o (.cy [(.s 13,.p 0),(.s 15,.p 0),(.s 14,.r 6),(.m 1 0,.d)] [(.exit 2,[(.s 14,.r 6),(.m 1 0,.d)])] .o)) .o))))) .o))))) .o))) (by kernel_rfl) fun c a=>by kernel_rfl
def t161:List (ba aK):=⟨161,[],[.v 29,.v 23],[1],fun c a=>GF a.1 a.2.1⟩::t13
theorem UR:bg (bl g) t161:=bF bD IZ [] (.two .o (.two .o (.two .o (.two .o (.two .o (.pc [(.normal,[(.s 51,.p 1)])] .o (.two (.pu [4] .o) (.pu [4] .o)))))))) (by kernel_rfl) fun c a=>by kernel_rfl
def t267:List (ba aK):=⟨267,[],[.v 22,.f [15] 1],[0],fun c a=>Q7 a.1 a.2.1⟩::t161
theorem US:bg (bl g) t267:=bF bD UR [] (.two .o (.two (.two .o (.cy [(.s 8,.p 0)] [(.exit 0,[]),(.ret,[(.s 4,.p 0)])] .o)) .o)) (by kernel_rfl) fun c a=>by kernel_rfl
def t162:List (ba aK):=⟨162,[],[.v 22,.f [15] 1],[1],fun c a=>K8 a.1 a.2.1⟩::t267
theorem UT:bg (bl g) t162:=bF bD US [] .o (by kernel_rfl) fun c a=>by kernel_rfl
def t163:List (ba aK):=⟨163,[29],[.v 15],[1],fun c a=>GH c a.1⟩::t162
theorem UU:bg (bl g) t163:=bF bD UT [] .o (by kernel_rfl) fun c a=>by kernel_rfl
def t90:List (ba aK):=⟨90,[],[.v 29,.v 25],[1],fun c a=>GK a.1 a.2.1⟩::t163
theorem UW:bg (bl g) t90:=bF bD UU [] (.two .o (.two .o (.two (.two .o (.cy [(.s 5,.p 0),(.s 13,.p 0)] [(.exit 0,[]),(.ret,[(.s 4,.c (.b2 false))])] (.two .o (.two .o (.two (.two .o (.two (.pc [(.normal,[(.s 39,.p 1)])] .o .o) .o)) .o))))) (.two .o (.two (.two .o (.cy [(.s 5,.p 0),(.s 46,.p 0)] [(.exit 2,[]),(.ret,[(.s 4,.c (.b2 false))])] (.two .o (.two .o (.two (.two .o (.two (.pc [(.normal,[(.s 59,.p 1)])] .o .o) .o)) .o))))) (.pc [(.normal,[(.s 4,.p 1)])] .o .o)))))) (by kernel_rfl) fun c a=>by kernel_rfl
def t40:List (ba aK):=⟨40,[],[.v 29],[1],fun c a=>GP a.1⟩::t90
theorem UX:bg (bl g) t40:=bF bD UW [] (.two .o (.two .o (.two (.two .o (.cy [(.s 18,.p 0)] [(.exit 0,[]),(.ret,[(.s 2,.c (.b2 false))])] (.two .o (.two .o (.two (.two .o (.two (.pc [(.normal,[(.s 45,.p 1)])] .o .o) (.two (.two .o (.cy [(.s 55,.p 0)] [(.exit 2,[]),(.ret,[(.s 2,.c (.b2 false))])] (.two .o (.two .o (.two (.two .o (.two .o (.pc [(.normal,[(.s 86,.p 1)])] .o .o))) .o))))) (.pc [(.normal,[]),(.ret,[(.s 2,.c (.b2 false))])] (.two .o (.two (.two .o (.pc [(.normal,[(.s 116,.p 1)])] .o .o)) .o)) .o)))) .o))))) .o))) (by kernel_rfl) fun c a=>by kernel_rfl
def t41:List (ba aK):=⟨41,[],[.v 29],[1],fun c a=>QQ a.1⟩::t40
theorem UY:bg (bl g) t41:=UX.cons (r2 rfl fun H ⟨j,_⟩ r h=>by
 cases h;exact Dh (spec:=Ca) (by kernel_rfl) (by simp[HW,cj,bx,RY]) (agr j) H)
def t11:List (ba aK):=⟨11,[],[.v 28],[1],fun c a=>yI a.1⟩::t41
theorem UZ:bg (bl g) t11:=bF bD UY [] (.two .o (.two (.pc [(.normal,[(.s 21,.p 1)])] .o .o) (.two .lt (.pc [(.normal,[(.s 2,.p 1)])] .o .o)))) (by kernel_rfl) fun c a=>by kernel_rfl
def t70:List (ba aK):=⟨70,[],[.v 6,.v 10,.v 1],[0],fun c a=>La a.1 a.2.1 a.2.2.1⟩::t11
theorem U0:bg (bl g) t70:=bF bD UZ [] .o (by kernel_rfl) fun c a=>by kernel_rfl
def t31:List (ba aK):=⟨31,[],[.v 28,.v 6],[1],fun c a=>AX a.1 a.2.1⟩::t70
theorem I0:bg (bl g) t31:=bF bD U0 [] (.two .o (.pc [(.normal,[(.s 4,.p 1)])] .o .o)) (by kernel_rfl) fun c a=>by kernel_rfl
def t14:List (ba aK):=⟨14,[],[.v 6,.v 10,.v 0,.v 6],[0,0],fun c a=>qf a.1 a.2.1 a.2.2.1 a.2.2.2.1⟩::t31
theorem I1:bg (bl g) t14:=bF bD I0 [] (.two .o (.two .o (.two (.pu [25] .o) (.two .o (.two .o (.two (.two .o (.cy [(.s 11,.p 0),(.s 38,.p 0)] [(.exit 0,[(.s 11,.p 0)]),(.ret,[(.s 8,.c (.int .i64 0)),(.s 9,.c (.int .i64 2))])] (.two .o (.two .o (.two (.two .o (.two (.pc [(.normal,[(.s 56,.p 1)])] .o .o) .o)) .o))))) .o)))))) (by kernel_rfl) fun c a=>by kernel_rfl
def t30:List (ba aK):=⟨30,[],[.v 6,.v 10],[1],fun c a=>GR a.1 a.2.1⟩::t14
theorem U1:bg (bl g) t30:=bF bD I1 [] (.two .o (.two (.two .o (.cy [(.s 5,.p 0)] [(.exit 0,[]),(.ret,[(.s 4,.c (.b2 false))])] (.two .o (.two (.pc [(.normal,[(.s 27,.p 1)])] .o .o) .o)))) (.pu [4] .o))) (by kernel_rfl) fun c a=>by kernel_rfl
def t7:List (ba aK):=⟨7,[],[.v 28],[1],fun c a=>DH a.1⟩::t30
theorem mT:bg (bl g) t7:=bF bD U1 [] (.two .o (.two (.pc [(.normal,[(.s 56,.p 1)])] .o .o) (.two (.two .o (.cy [(.s 3,.p 0)] [(.exit 0,[]),(.ret,[(.s 2,.c (.b2 false))])] .o)) (.two (.two .o (.cy [(.s 4,.p 0)] [(.exit 2,[]),(.ret,[(.s 2,.c (.b2 false))])] .o)) (.two (.two .o (.cy [(.s 5,.p 0)] [(.exit 4,[]),(.ret,[(.s 2,.c (.b2 false))])] (.two .o (.two (.pc [(.normal,[(.s 111,.p 1)])] .o .o) .o)))) (.two (.two .o (.cy [(.s 6,.p 0)] [(.exit 6,[]),(.ret,[(.s 2,.c (.b2 false))])] (.two .o (.two (.two .o (.two (.pc [(.normal,[(.s 150,.p 1)])] .o .o) (.two .o (.cy [(.s 8,.p 0)] [(.exit 8,[]),(.ret,[(.s 2,.c (.b2 false))])] .o)))) .o)))) .o)))))) (by kernel_rfl) fun c a=>by kernel_rfl
def t42:List (ba aK):=⟨42,[],[.v 28,.v 1],[12],fun c a=>Ri a.1 a.2.1⟩::t7
theorem az6:bg (bl g) t42:=bF bD mT [] .o (by kernel_rfl) fun c a=>by kernel_rfl
def t12:List (ba aK):=⟨12,[],[.v 28],[12],fun c a=>Li a.1⟩::t42
theorem az7:bg (bl g) t12:=bF bD az6 [] .o (by kernel_rfl) fun c a=>by kernel_rfl
def t9:List (ba aK):=⟨9,[],[.v 28,.v 6],[9],fun c a=>vf a.1 a.2.1⟩::t12
theorem U2:bg (bl g) t9:=az7.cons (r2 rfl fun H ⟨m,l,_⟩ r h=>ag3 (aeN I0.hd) (aeO IZ.hd) (aeP I1.hd) (by kernel_rfl) (by kernel_rfl) H m l r h)
def t4:List (ba aK):=⟨4,[],[.v 28,.v 6],[1],fun c a=>Lk a.1 a.2.1⟩::t9
theorem cS:bg (bl g) t4:=bF bD U2 [(101,0)] (.two .o (.two .o (.two (.pc [(.normal,[(.s 32,.p 1)])] .o .o) (.two .o (.two .o (.two (.two .o (.cy [(.s 43,.p 0)] [(.exit 0,[]),(.ret,[(.s 4,.c (.b2 false))])] (.two .o (.two .o (.two (.two .o (.two .o (.two (.pc [(.normal,[(.s 70,.p 1)])] .o .o) (.two .o (.two (.two .o (.cy [(.s 10,.p 1),(.s 74,.p 0)] [(.exit 2,[(.s 10,.p 1)]),(.ret,[(.s 4,.c (.b2 false))])] (.two .o (.two .o (.two (.two .o (.two (.pu [88] .o) (.two .o (.two .o (.pc [(.normal,[(.s 125,.p 1)])] .o .o))))) .o))))) (.pc [(.normal,[(.s 139,.p 1)])] .o .o)))))) .o))))) .o)))))) (by kernel_rfl) fun c a=>by kernel_rfl
theorem az8:bl g 4=some (.code (yW (bl g) 4)):=(yX (J:=aK) (e:=⟨4,[],[.v 28,.v 6],[1],fun c a=>Lk a.1 a.2.1⟩) (by kernel_rfl)).1
theorem U3 (m:Model)(st:ae Int)(ca:bk st.l):b9 (bl g) (.fn 4 [] []) [ub m,aV 1 ao st] []=some (.bool true,[],0):=cS.hd [] [] () (m,st,()) [] _ true rfl (.nil []) ⟨_,rfl,_,rfl,rfl⟩ (azc m st ca)
end
end Go.Abs.bA
