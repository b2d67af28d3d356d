/- Texts of this claim, joined and written short by a program. -/
import Derived.Test.YtdoflpjbdlgciaaGreatDoorP32
import Derived.Test.YtdoflpjbdlgciaaGreatDoorP31
import Derived.Test.YtdoflpjbdlgciaaGreatDoorP33
import Derived.Test.YtdoflpjbdlgciaaGreatDoorP00
set_option linter.unusedVariables false
set_option linter.unusedSimpArgs false
set_option linter.unusedSectionVars false
set_option maxRecDepth 100000
namespace Go.Abs.bZ
open Go Go.Abs Go.Abs.hG Go.Abs.Lex
noncomputable section
variable{g:Nat->Option Obj}
def t0:List (bM a8):=[]
theorem fM:bW (b9 g) t0:=fun _ h=>by cases h
def t4:List (bM a8):=⟨4,[],[],[1],fun c a=>Qm⟩::t0
theorem cZ:bW (b9 g) t4:=fM.cons (x2 rfl fun H a r h=>by
 cases h;exact Fo (spec:=E2 [] (.bool true)) (by kernel_rfl) rfl (by kernel_rfl) H)
def t359:List (bM a8):=⟨359,[],[.v 3],[1],fun c a=>zK a.1⟩::t4
theorem afV:bW (b9 g) t359:=cr cp cZ [] (.two .o (.pu [2] .o)) (by kernel_rfl) fun c a=>by kernel_rfl
def t362:List (bM a8):=⟨362,[],[.v 3],[1],fun c a=>zL a.1⟩::t359
theorem afW:bW (b9 g) t362:=cr cp afV [] (.two .o (.pu [2] .o)) (by kernel_rfl) fun c a=>by kernel_rfl
def t361:List (bM a8):=⟨361,[],[.v 3],[1],fun c a=>FI a.1⟩::t362
theorem afX:bW (b9 g) t361:=cr cp afW [] (.two .o (.pc [(.normal,[(.s 2,.p 1)])] .o .o)) (by kernel_rfl) fun c a=>by kernel_rfl
def t364:List (bM a8):=⟨364,[],[.v 3],[1],fun c a=>Cx a.1⟩::t361
theorem afY:bW (b9 g) t364:=cr cp afX [] (.two .o (.pu [2] .o)) (by kernel_rfl) fun c a=>by kernel_rfl
def t487:List (bM a8):=⟨487,[],[.v 2,.v 2],[1],fun c a=>Qn a.1 a.2.1⟩::t364
theorem ayD:bW (b9 g) t487:=cr cp afY [] (.two .o (.pc [(.normal,[(.s 4,.p 1)])] .o .o)) (by kernel_rfl) fun c a=>by kernel_rfl
def t426:List (bM a8):=⟨426,[],[.v 2,.v 2],[1],fun c a=>Kk a.1 a.2.1⟩::t487
theorem ayE:bW (b9 g) t426:=cr cp ayD [] .o (by kernel_rfl) fun c a=>by kernel_rfl
def t427:List (bM a8):=⟨427,[],[.v 2,.v 3],[0],fun c a=>strings_IndexByte a.1 a.2.1⟩::t426
theorem ayF:bW (b9 g) t427:=ayE.cons (x2 rfl fun H ⟨s,c,_⟩ r h=>by
 cases h;exact Fo (spec:=IP) (by kernel_rfl) rfl rfl H)
def t363:List (bM a8):=⟨363,[],[.v 2],[0],fun c a=>Cv a.1⟩::t427
theorem afZ:bW (b9 g) t363:=cr cp ayF [(5,2)] (.two .o (.two (.two .o (.c8 [(.s 7,.p 0)] [(.exit 0,[]),(.ret,[(.s 2,.c (.int .i64 2))])] .o)) (.two (.pc [(.normal,[(.s 22,.p 1)])] .o .o) .o))) (by kernel_rfl) fun c a=>by kernel_rfl
def t365:List (bM a8):=⟨365,[],[.v 2],[1],fun c a=>FF a.1⟩::t363
theorem af0:bW (b9 g) t365:=cr cp afZ [] (.two .o (.pc [(.normal,[(.s 2,.p 1)])] .o .o)) (by kernel_rfl) fun c a=>by kernel_rfl
def t360:List (bM a8):=⟨360,[],[.v 2,.f [3] 1],[0],fun c a=>Cw a.1 a.2.1⟩::t365
theorem af1:bW (b9 g) t360:=cr cp af0 [] (.two .o (.two .o (.two (.c8 [(.s 5,.p 0)] [(.exit 0,[(.s 5,.p 0)])] (.two (.pc [(.normal,[(.s 16,.p 1)])] .o .o) .o)) .o))) (by kernel_rfl) fun c a=>by kernel_rfl
def t425:List (bM a8):=⟨425,[],[.v 3],[1],fun c a=>Cy a.1⟩::t360
theorem af2:bW (b9 g) t425:=cr cp af1 [] .o (by kernel_rfl) fun c a=>by kernel_rfl
def t358:List (bM a8):=⟨358,[],[.v 2],[0],fun c a=>FH a.1⟩::t425
theorem af3:bW (b9 g) t358:=cr cp af2 [] (.two .o (.two .o (.two (.c8 [(.s 3,.p 0)] [(.exit 0,[(.s 3,.p 0)]),(.ret,[(.s 2,.p 0)])] .o) .o))) (by kernel_rfl) fun c a=>by kernel_rfl
def t233:List (bM a8):=⟨233,[],[.v 2],[0],fun c a=>Ki a.1⟩::t358
theorem ayG:bW (b9 g) t233:=af3.cons (x2 rfl fun H ⟨w,_⟩ r h=>by
 cases h;exact avK ⟨arT afV.hd,arU afW.hd,arV afX.hd,arW afY.hd,arX af0.hd,arY afZ.hd,arZ af1.hd,ar0 af3.hd,ar1 af2.hd,by kernel_rfl,by kernel_rfl,by kernel_rfl,by kernel_rfl,⟨IM,by kernel_rfl,by kernel_rfl⟩⟩ w H)
def t244:List (bM a8):=⟨244,[],[.v 10,.v 2],[2],fun c a=>strings_Join a.1 a.2.1⟩::t233
theorem ayH:bW (b9 g) t244:=ayG.cons (x2 rfl fun H ⟨x,s,_⟩ r h=>Fo (spec:=Ea) (by kernel_rfl) (ayu x s) (ayt h) H)
def t55:List (bM a8):=⟨55,[],[.v 0],[2],fun c a=>strconv_Itoa a.1⟩::t244
theorem ayI:bW (b9 g) t55:=ayH.cons (x2 rfl fun H ⟨n,_⟩ r h=>Fo (spec:=Eb) (by kernel_rfl) rfl (ays h) H)
def t63:List (bM a8):=⟨63,[],[.v 0],[2],fun c a=>rZ a.1⟩::t55
theorem ayJ:bW (b9 g) t63:=ayI.cons (x2 rfl fun H ⟨n,_⟩ r h=>ayC (by kernel_rfl) H n r h)
def t18:List (bM a8):=⟨18,[],[.v 6,.v 9],[1],fun c a=>Km a.1 a.2.1⟩::t63
theorem ayK:bW (b9 g) t18:=cr cp ayJ [] (.two .o (.two (.two .o (.c8 [(.s 5,.p 0)] [(.exit 0,[]),(.ret,[(.s 4,.c (.cy false))])] (.two .o (.two (.pc [(.normal,[(.s 27,.p 1)])] .o .o) .o)))) (.pu [4] .o))) (by kernel_rfl) fun c a=>by kernel_rfl
def t5:List (bM a8):=⟨5,[],[.v 26],[1],fun c a=>Ks a.1⟩::t18
theorem fq:bW (b9 g) t5:=cr cp ayK [] (.two .o (.two (.pc [(.normal,[(.s 56,.p 1)])] .o .o) (.two (.two .o (.c8 [(.s 3,.p 0)] [(.exit 0,[]),(.ret,[(.s 2,.c (.cy false))])] .o)) (.two (.two .o (.c8 [(.s 4,.p 0)] [(.exit 2,[]),(.ret,[(.s 2,.c (.cy false))])] .o)) (.two (.two .o (.c8 [(.s 5,.p 0)] [(.exit 4,[]),(.ret,[(.s 2,.c (.cy false))])] (.two .o (.two (.pc [(.normal,[(.s 111,.p 1)])] .o .o) .o)))) (.two (.two .o (.c8 [(.s 6,.p 0)] [(.exit 6,[]),(.ret,[(.s 2,.c (.cy false))])] (.two .o (.two (.two .o (.two (.pc [(.normal,[(.s 150,.p 1)])] .o .o) (.two .o (.c8 [(.s 8,.p 0)] [(.exit 8,[]),(.ret,[(.s 2,.c (.cy false))])] .o)))) .o)))) .o)))))) (by kernel_rfl) fun c a=>by kernel_rfl
def t6:List (bM a8):=⟨6,[],[.v 23],[1],fun c a=>Ku a.1⟩::t5
theorem hC:bW (b9 g) t6:=cr cp fq [] (.two .o (.two (.pu [13] .o) (.two (.two .o (.c8 [(.s 3,.p 0)] [(.exit 0,[]),(.ret,[(.s 2,.c (.cy false))])] (.two .o (.two (.pc [(.normal,[(.s 46,.p 1)])] .o .o) .o)))) .o))) (by kernel_rfl) fun c a=>by kernel_rfl
def t344:List (bM a8):=⟨344,[],[.v 27,.v 1],[0],fun c a=>ab0 a.1 a.2.1⟩::t6
theorem ayL:bW (b9 g) t344:=cr cp hC [] (.two .o (.two (.two .o (.c8 [(.s 8,.p 0)] [(.exit 0,[]),(.ret,[(.s 4,.p 0)])] .o)) .o)) (by kernel_rfl) fun c a=>by kernel_rfl
def t231:List (bM a8):=⟨231,[],[.v 27,.v 1],[1],fun c a=>Qr a.1 a.2.1⟩::t344
theorem ayM:bW (b9 g) t231:=cr cp ayL [] .o (by kernel_rfl) fun c a=>by kernel_rfl
def t111:List (bM a8):=⟨111,[],[.v 27],[1],fun c a=>CA a.1⟩::t231
theorem ayN:bW (b9 g) t111:=cr cp ayM [] .o (by kernel_rfl) fun c a=>by kernel_rfl
def t105:List (bM a8):=⟨105,[],[.v 6,.f [0] 1],[0],fun c a=>ab1 a.1 a.2.1⟩::t111
theorem ayO:bW (b9 g) t105:=cr cp ayN [] (.two .o (.two (.two .o (.c8 [(.s 8,.p 0)] [(.exit 0,[]),(.ret,[(.s 4,.p 0)])] .o)) .o)) (by kernel_rfl) fun c a=>by kernel_rfl
def t37:List (bM a8):=⟨37,[],[.v 6,.f [0] 1],[1],fun c a=>FJ a.1 a.2.1⟩::t105
theorem ayP:bW (b9 g) t37:=cr cp ayO [] .o (by kernel_rfl) fun c a=>by kernel_rfl
def t114:List (bM a8):=⟨114,[],[.v 0,.v 0,.v 0],[1],fun c a=>Kv a.1 a.2.1 a.2.2.1⟩::t37
theorem ayQ:bW (b9 g) t114:=cr cp ayP [] (.two .o (.pu [6] .o)) (by kernel_rfl) fun c a=>by kernel_rfl
def t232:List (bM a8):=⟨232,[],[.v 0],[1],fun c a=>Qs a.1⟩::t114
theorem ayR:bW (b9 g) t232:=cr cp ayQ [] .o (by kernel_rfl) fun c a=>by kernel_rfl
def t112:List (bM a8):=⟨112,[],[.v 6],[1],fun c a=>Kw a.1⟩::t232
theorem ayS:bW (b9 g) t112:=cr cp ayR [] .o (by kernel_rfl) fun c a=>by kernel_rfl
def t113:List (bM a8):=⟨113,[],[.v 2],[1],fun c a=>zP a.1⟩::t112
theorem ayT:bW (b9 g) t113:=cr cp ayS [] (.two .o (.pc [(.normal,[(.s 2,.p 1)])] .o .o)) (by kernel_rfl) fun c a=>by kernel_rfl
def t234:List (bM a8):=⟨234,[6],[.v 0],[1],fun c a=>Qt c a.1⟩::t113
theorem ayU:bW (b9 g) t234:=cr cp ayT [] (.two .o (.pu [3] .o)) (by kernel_rfl) fun c a=>by kernel_rfl
def t115:List (bM a8):=⟨115,[],[.v 6,.v 6],[1],fun c a=>Kx a.1 a.2.1⟩::t234
theorem ayV:bW (b9 g) t115:=cr cp ayU [] (.two .o (.pc [(.normal,[(.s 4,.p 1)])] .o .o)) (by kernel_rfl) fun c a=>by kernel_rfl
def t116:List (bM a8):=⟨116,[],[.v 8],[1],fun c a=>Ky a.1⟩::t115
theorem ad2:bW (b9 g) t116:=cr cp ayV [] (.two .o (.pc [(.normal,[]),(.ret,[(.s 2,.p 1)])] (.two .o (.pc [(.normal,[(.s 5,.p 1)])] .o (.two (.pu [2] .o) .o))) .o)) (by kernel_rfl) fun c a=>by kernel_rfl
def t117:List (bM a8):=⟨117,[],[.v 8],[1],fun c a=>CB a.1⟩::t116
theorem ayW:bW (b9 g) t117:=cr cp ad2 [] (.two .o (.pu [2] .o)) (by kernel_rfl) fun c a=>by kernel_rfl
def t118:List (bM a8):=⟨118,[],[.v 6,.v 6],[0],fun c a=>uf a.1 a.2.1⟩::t117
theorem ayX:bW (b9 g) t118:=cr cp ayW [] (.two .o (.two .o (.two (.two .o (.c8 [(.s 5,.p 0),(.s 10,.p 0)] [(.exit 0,[(.s 5,.p 0)])] .o)) .o))) (by kernel_rfl) fun c a=>by kernel_rfl
def t44:List (bM a8):=⟨44,[],[.v 6,.v 9],[1],fun c a=>CE a.1 a.2.1⟩::t118
theorem ayY:bW (b9 g) t44:=cr cp ayX [(19,1),(22,100),(46,1)] (.two .o (.two .o (.two .o (.two .o (.two (.two .o (.c8 [(.s 25,.p 0),(.m 2 0,.p 0),(.m 1 0,.p 0),(.s 5,.r 100),(.m 0 0,.d)] [(.exit 0,[(.m 2 0,.p 0),(.m 1 0,.p 0)]),(.ret,[(.s 4,.c (.cy false))])] .o)) (.pu [4] .o)))))) (by kernel_rfl) fun c a=>by kernel_rfl
def t45:List (bM a8):=⟨45,[],[.v 10],[1],fun c a=>FN a.1⟩::t44
theorem ayZ:bW (b9 g) t45:=cr cp ayY [(6,100)] (.two .o (.two .o (.two (.two .o (.c8 [(.s 9,.p 0),(.s 3,.r 100),(.m 0 0,.d)] [(.exit 0,[]),(.ret,[(.s 2,.c (.cy false))])] (.two .o (.two .o (.two (.two .o (.two (.pc [(.normal,[(.s 20,.p 1)])] .o .o) .o)) .o))))) .o))) (by kernel_rfl) fun c a=>by kernel_rfl
def t119:List (bM a8):=⟨119,[],[.v 28,.v 0],[28],fun c a=>FA a.1 a.2.1⟩::t45
theorem ay0:bW (b9 g) t119:=ayZ.cons (x2 rfl fun H ⟨x,n,_⟩ r h=>awa ⟨by kernel_rfl,by kernel_rfl,by kernel_rfl⟩ H x n r h)
def t46:List (bM a8):=⟨46,[],[.v 6,.v 9,.v 1],[28],fun c a=>FP a.1 a.2.1 a.2.2.1⟩::t119
theorem ay1:bW (b9 g) t46:=cr cp ay0 [(27,7)] (.two .o (.two .o (.two .o (.two (.two .o (.c8 [(.s 16,.p 0),(.s 7,.r 28)] [(.exit 0,[(.s 7,.r 28)])] .o)) .o)))) (by kernel_rfl) fun c a=>by kernel_rfl
def t120:List (bM a8):=⟨120,[],[.v 0,.v 0],[1],fun c a=>np a.1 a.2.1⟩::t46
theorem ay2:bW (b9 g) t120:=cr cp ay1 [] (.two .o (.pu [4] .o)) (by kernel_rfl) fun c a=>by kernel_rfl
def t125:List (bM a8):=⟨125,[],[.v 0,.v 0],[1],fun c a=>zQ a.1 a.2.1⟩::t120
theorem ay3:bW (b9 g) t125:=cr cp ay2 [] (.two .o (.pu [4] .o)) (by kernel_rfl) fun c a=>by kernel_rfl
def t121:List (bM a8):=⟨121,[],[.v 29,.v 13],[1],fun c a=>FR a.1 a.2.1⟩::t125
theorem ay4:bW (b9 g) t121:=cr cp ay3 [] (.two .o (.two .o (.two (.two .o (.c8 [(.s 5,.p 0),(.s 11,.p 0)] [(.exit 0,[]),(.ret,[(.s 4,.c (.cy false))])] (.two .o (.two .o (.two (.two .o (.two (.pc [(.normal,[(.s 37,.p 1)])] .o .o) .o)) .o))))) .o))) (by kernel_rfl) fun c a=>by kernel_rfl
def t203:List (bM a8):=⟨203,[],[.v 9,.f [8] 1],[0],fun c a=>ab2 a.1 a.2.1⟩::t121
theorem ay5:bW (b9 g) t203:=cr cp ay4 [] (.two .o (.two (.two .o (.c8 [(.s 8,.p 0)] [(.exit 0,[]),(.ret,[(.s 4,.p 0)])] .o)) .o)) (by kernel_rfl) fun c a=>by kernel_rfl
def t236:List (bM a8):=⟨236,[],[.v 9,.f [8] 1],[1],fun c a=>Qw a.1 a.2.1⟩::t203
theorem ay6:bW (b9 g) t236:=cr cp ay5 [] .o (by kernel_rfl) fun c a=>by kernel_rfl
def t237:List (bM a8):=⟨237,[14,29],[.v 8],[1],fun c a=>KA c.1 c.2 a.1⟩::t236
theorem ay7:bW (b9 g) t237:=cr cp ay6 [] (.two .o (.pc [(.normal,[(.s 4,.p 1)])] .o .o)) (by kernel_rfl) fun c a=>by kernel_rfl
def t122:List (bM a8):=⟨122,[],[.v 29,.v 14],[1],fun c a=>KB a.1 a.2.1⟩::t237
theorem ay8:bW (b9 g) t122:=cr cp ay7 [] (.two .o (.pc [(.normal,[(.s 4,.p 1)])] .o .o)) (by kernel_rfl) fun c a=>by kernel_rfl
def t238:List (bM a8):=⟨238,[],[.v 12,.v 12],[1],fun c a=>CG a.1 a.2.1⟩::t122
theorem ay9:bW (b9 g) t238:=cr cp ay8 [] (.two .o (.two .o (.two (.two .o (.c8 [(.s 13,.p 0)] [(.exit 0,[]),(.ret,[(.s 4,.c (.cy false))])] .o)) .o))) (by kernel_rfl) fun c a=>by kernel_rfl
def t123:List (bM a8):=⟨123,[],[.v 13,.v 0,.v 0,.v 0],[1],fun c a=>KD a.1 a.2.1 a.2.2.1 a.2.2.2.1⟩::t238
theorem aza:bW (b9 g) t123:=cr cp ay9 [(14,11)] (.two .o (.pc [(.normal,[(.s 8,.p 1)])] .o .o)) (by kernel_rfl) fun c a=>by kernel_rfl
def t47:List (bM a8):=⟨47,[],[.v 29],[1],fun c a=>KE a.1⟩::t123
theorem azb:bW (b9 g) t47:=cr cp aza [] (.two .o (.two (.pu [23] .o) (.two (.two .o (.c8 [(.s 28,.p 0)] [(.exit 0,[]),(.ret,[(.s 2,.c (.cy false))])] (.two .o (.two .o (.two (.two .o (.pc [(.normal,[]),(.ret,[(.s 2,.c (.cy false))])] (.two .o (.two .o (.two .o (.two (.pc [(.normal,[(.s 60,.p 1)])] .o .o) (.pc [(.normal,[(.s 61,.p 1)])] .o .o))))) (.two .o (.two (.two .o (.pc [(.normal,[(.s 6,.p 0),(.s 7,.p 0)])] .o (.pc [(.normal,[(.s 103,.p 1)])] .o .o))) .o)))) .o))))) .o))) (by kernel_rfl) fun c a=>by kernel_rfl
def t124:List (bM a8):=⟨124,[29],[.v 0],[1],fun c a=>KF c a.1⟩::t47
theorem azc:bW (b9 g) t124:=cr cp azb [] (.two .o (.pu [3] .o)) (by kernel_rfl) fun c a=>by kernel_rfl
def t48:List (bM a8):=⟨48,[],[.v 29],[1],fun c a=>KG a.1⟩::t124
theorem azd:bW (b9 g) t48:=cr cp azc [(17,2)] (.two .o (.two .o (.two (.two .o (.c8 [(.s 10,.p 0),(.s 3,.r 10)] [(.exit 0,[(.s 3,.r 10)]),(.ret,[(.s 2,.c (.cy false))])] (.two .o (.two .o (.two (.two .o (.two .o (.pc [(.normal,[(.s 28,.p 1)])] .o .o))) .o))))) (.pc [(.normal,[(.s 2,.p 1)])] .o .o)))) (by kernel_rfl) fun c a=>by kernel_rfl
def t220:List (bM a8):=⟨220,[],[.v 0],[1],fun c a=>KH a.1⟩::t48
theorem aze:bW (b9 g) t220:=cr cp azd [] .o (by kernel_rfl) fun c a=>by kernel_rfl
def t100:List (bM a8):=⟨100,[],[.v 0,.v 0],[0],fun c a=>KI a.1 a.2.1⟩::t220
theorem azf:bW (b9 g) t100:=cr cp aze [] .o (by kernel_rfl) fun c a=>by kernel_rfl
def t126:List (bM a8):=⟨126,[],[.v 6,.v 6],[0],fun c a=>FW a.1 a.2.1⟩::t100
theorem azg:bW (b9 g) t126:=cr cp azf [] (.two .o (.two (.two .o (.c8 [(.s 11,.p 0)] [(.exit 0,[]),(.ret,[(.s 4,.p 0)])] .o)) .o)) (by kernel_rfl) fun c a=>by kernel_rfl
def t343:List (bM a8):=⟨343,[],[.v 20,.f [13] 1],[0],fun c a=>ab4 a.1 a.2.1⟩::t126
theorem azh:bW (b9 g) t343:=cr cp azg [] (.two .o (.two (.two .o (.c8 [(.s 8,.p 0)] [(.exit 0,[]),(.ret,[(.s 4,.p 0)])] .o)) .o)) (by kernel_rfl) fun c a=>by kernel_rfl
def t229:List (bM a8):=⟨229,[],[.v 20,.f [13] 1],[1],fun c a=>QC a.1 a.2.1⟩::t343
theorem azi:bW (b9 g) t229:=cr cp azh [] .o (by kernel_rfl) fun c a=>by kernel_rfl
def t243:List (bM a8):=⟨243,[],[.v 6,.v 9,.v 1,.v 0],[0,6,1],fun c a=>FZ a.1 a.2.1 a.2.2.1 a.2.2.2.1⟩::t229
theorem azj:bW (b9 g) t243:=cr cp azi [(55,0)] (.two .o (.two (.pc [(.normal,[(.s 24,.p 1)])] .o .o) (.two (.two .o (.c8 [(.s 27,.p 0)] [(.exit 0,[]),(.ret,[(.s 8,.p 0),(.s 9,.r 6),(.s 10,.c (.cy true))])] (.two .o (.two .o (.two (.two .o (.two .o (.two (.pc [(.normal,[(.s 51,.p 1)])] .o .o) (.two .o (.two (.two .o (.c8 [(.s 13,.p 0),(.s 15,.p 0),(.s 14,.r 6),(.m 1 0,.d)] [(.exit 2,[(.s 14,.r 6),(.m 1 0,.d)])] .o)) .o))))) .o))))) .o))) (by kernel_rfl) fun c a=>by kernel_rfl
def t239:List (bM a8):=⟨239,[],[.v 29,.v 21],[1],fun c a=>KK a.1 a.2.1⟩::t243
theorem azk:bW (b9 g) t239:=cr cp azj [] (.two .o (.two .o (.two .o (.two .o (.two .o (.pc [(.normal,[(.s 51,.p 1)])] .o (.two (.pu [4] .o) (.pu [4] .o)))))))) (by kernel_rfl) fun c a=>by kernel_rfl
def t240:List (bM a8):=⟨240,[29],[.v 13],[1],fun c a=>KL c a.1⟩::t239
theorem azl:bW (b9 g) t240:=cr cp azk [] .o (by kernel_rfl) fun c a=>by kernel_rfl
def t127:List (bM a8):=⟨127,[],[.v 29,.v 23],[1],fun c a=>KM a.1 a.2.1⟩::t240
theorem azm:bW (b9 g) t127:=cr cp azl [] (.two .o (.two .o (.two (.two .o (.c8 [(.s 5,.p 0),(.s 13,.p 0)] [(.exit 0,[]),(.ret,[(.s 4,.c (.cy false))])] (.two .o (.two .o (.two (.two .o (.two (.pc [(.normal,[(.s 39,.p 1)])] .o .o) .o)) .o))))) (.two .o (.two (.two .o (.c8 [(.s 5,.p 0),(.s 46,.p 0)] [(.exit 2,[]),(.ret,[(.s 4,.c (.cy false))])] (.two .o (.two .o (.two (.two .o (.two (.pc [(.normal,[(.s 59,.p 1)])] .o .o) .o)) .o))))) (.pc [(.normal,[(.s 4,.p 1)])] .o .o)))))) (by kernel_rfl) fun c a=>by kernel_rfl
def t49:List (bM a8):=⟨49,[],[.v 29],[1],fun c a=>KO a.1⟩::t127
theorem azn:bW (b9 g) t49:=cr cp azm [] (.two .o (.two .o (.two (.two .o (.c8 [(.s 18,.p 0)] [(.exit 0,[]),(.ret,[(.s 2,.c (.cy false))])] (.two .o (.two .o (.two (.two .o (.two (.pc [(.normal,[(.s 45,.p 1)])] .o .o) (.two (.two .o (.c8 [(.s 55,.p 0)] [(.exit 2,[]),(.ret,[(.s 2,.c (.cy false))])] (.two .o (.two .o (.two (.two .o (.two .o (.pc [(.normal,[(.s 86,.p 1)])] .o .o))) .o))))) (.pc [(.normal,[]),(.ret,[(.s 2,.c (.cy false))])] (.two .o (.two (.two .o (.pc [(.normal,[(.s 116,.p 1)])] .o .o)) .o)) .o)))) .o))))) .o))) (by kernel_rfl) fun c a=>by kernel_rfl
def t50:List (bM a8):=⟨50,[],[.v 29],[1],fun c a=>abX a.1⟩::t49
theorem azo:bW (b9 g) t50:=azn.cons (x2 rfl fun H ⟨j,_⟩ r h=>by
 cases h;exact Fo (spec:=DB) (by kernel_rfl) (by simp[Mb,cx,bQ,acn]) (awL j) H)
def t19:List (bM a8):=⟨19,[],[.v 26],[1],fun c a=>zV a.1⟩::t50
theorem azp:bW (b9 g) t19:=cr cp azo [] (.two .o (.two (.pc [(.normal,[(.s 21,.p 1)])] .o .o) (.two .lt (.pc [(.normal,[(.s 2,.p 1)])] .o .o)))) (by kernel_rfl) fun c a=>by kernel_rfl
def t130:List (bM a8):=⟨130,[],[.v 12,.f [11] 1],[0],fun c a=>ab5 a.1 a.2.1⟩::t19
theorem azq:bW (b9 g) t130:=cr cp azp [] (.two .o (.two (.two .o (.c8 [(.s 8,.p 0)] [(.exit 0,[]),(.ret,[(.s 4,.p 0)])] .o)) .o)) (by kernel_rfl) fun c a=>by kernel_rfl
def t51:List (bM a8):=⟨51,[],[.v 12,.f [11] 1],[1],fun c a=>QJ a.1 a.2.1⟩::t130
theorem azr:bW (b9 g) t51:=cr cp azq [] .o (by kernel_rfl) fun c a=>by kernel_rfl
def t53:List (bM a8):=⟨53,[],[.v 0],[1],fun c a=>KP a.1⟩::t51
theorem azs:bW (b9 g) t53:=cr cp azr [] (.two .o (.pu [2] .o)) (by kernel_rfl) fun c a=>by kernel_rfl
def t52:List (bM a8):=⟨52,[0],[.v 11],[1],fun c a=>F7 c a.1⟩::t53
theorem azt:bW (b9 g) t52:=cr cp azs [] (.two .o (.pc [(.normal,[(.s 3,.p 1)])] .o .o)) (by kernel_rfl) fun c a=>by kernel_rfl
def t20:List (bM a8):=⟨20,[],[.v 13,.v 0],[1],fun c a=>KQ a.1 a.2.1⟩::t52
theorem azu:bW (b9 g) t20:=cr cp azt [] .o (by kernel_rfl) fun c a=>by kernel_rfl
def t54:List (bM a8):=⟨54,[],[.v 26,.v 1],[28],fun c a=>QK a.1 a.2.1⟩::t20
theorem azv:bW (b9 g) t54:=cr cp azu [] .o (by kernel_rfl) fun c a=>by kernel_rfl
def t21:List (bM a8):=⟨21,[],[.v 26],[28],fun c a=>KR a.1⟩::t54
theorem azw:bW (b9 g) t21:=cr cp azv [] .o (by kernel_rfl) fun c a=>by kernel_rfl
def t132:List (bM a8):=⟨132,[],[.v 6,.v 9,.v 1,.v 0],[2],fun c a=>QM a.1 a.2.1 a.2.2.1 a.2.2.2.1⟩::t21
theorem azx:bW (b9 g) t132:=cr cp azw [(35,2)] (.two .o (.two .o (.two .o (.two .o (.two (.two .o (.c8 [(.s 28,.p 0),(.s 12,.r 10)] [(.exit 0,[(.s 12,.r 10)])] .o)) .o))))) (by kernel_rfl) fun c a=>by kernel_rfl
def t56:List (bM a8):=⟨56,[],[.v 26,.v 0],[2],fun c a=>KS a.1 a.2.1⟩::t132
theorem azy:bW (b9 g) t56:=cr cp azx [] .o (by kernel_rfl) fun c a=>by kernel_rfl
def t22:List (bM a8):=⟨22,[],[.v 26,.v 13],[2],fun c a=>Ga a.1 a.2.1⟩::t56
theorem azz:bW (b9 g) t22:=cr cp azy [] (.two .o (.two .o (.two (.two .o (.c8 [(.s 5,.p 2),(.s 12,.p 0)] [(.exit 0,[(.s 5,.p 2)])] (.two .o (.two .o (.two (.two .o (.pc [(.normal,[(.s 5,.p 2)])] (.pu [17] .o) (.pc [(.normal,[(.s 5,.p 2)])] .o .o))) .o))))) (.pc [(.normal,[(.s 5,.p 2)])] .o .o)))) (by kernel_rfl) fun c a=>by kernel_rfl
def t23:List (bM a8):=⟨23,[],[.v 26,.v 14],[2],fun c a=>KT a.1 a.2.1⟩::t22
theorem azA:bW (b9 g) t23:=cr cp azz [] (.two .o (.two .o (.two .o (.two (.two .o (.c8 [(.s 27,.p 0)] [(.exit 0,[]),(.ret,[(.s 4,.p 2)])] (.two .o (.two .o (.two (.two .o (.pu [46] .o)) .o))))) .o)))) (by kernel_rfl) fun c a=>by kernel_rfl
def t7:List (bM a8):=⟨7,[],[.v 26,.v 23,.v 30],[2],fun c a=>KU a.1 a.2.1 a.2.2.1⟩::t23
theorem nH:bW (b9 g) t7:=cr cp azA [] (.two .o (.two (.pc [(.normal,[(.s 14,.p 1)])] .o .o) (.two (.pu [15] (.two .o (.pc [(.normal,[(.s 24,.p 1)])] .o (.two .o (.pu [57] .o))))) .o))) (by kernel_rfl) fun c a=>by kernel_rfl
def t133:List (bM a8):=⟨133,[],[.v 6],[1],fun c a=>Gd a.1⟩::t7
theorem azB:bW (b9 g) t133:=cr cp nH [] (.two .o (.two (.two .o (.c8 [(.s 3,.p 0)] [(.exit 0,[]),(.ret,[(.s 2,.c (.cy false))])] (.two .o (.two (.pc [(.normal,[(.s 21,.p 1)])] .o .o) .o)))) .o)) (by kernel_rfl) fun c a=>by kernel_rfl
def t134:List (bM a8):=⟨134,[],[.v 6,.v 6],[0],fun c a=>xR a.1 a.2.1⟩::t133
theorem azC:bW (b9 g) t134:=cr cp azB [] (.two .o (.two (.pc [(.normal,[(.s 14,.p 1)])] .o .o) (.two .o (.two (.two .o (.c8 [(.s 5,.p 0),(.s 6,.p 0)] [(.exit 0,[(.s 5,.p 0)]),(.ret,[(.s 4,.c (.int .i64 0))])] (.two .o (.two (.two (.pc [(.normal,[(.s 34,.p 1)])] .o .o) .o) .o)))) .o)))) (by kernel_rfl) fun c a=>by kernel_rfl
def t480:List (bM a8):=⟨480,[],[.v 3],[1],fun c a=>Gf a.1⟩::t134
theorem azD:bW (b9 g) t480:=cr cp azC [] (.two .o (.pu [2] .o)) (by kernel_rfl) fun c a=>by kernel_rfl
def t422:List (bM a8):=⟨422,[],[.v 2,.v 0],[0],fun c a=>Gh a.1 a.2.1⟩::t480
theorem azE:bW (b9 g) t422:=cr cp azD [] (.two .o (.two (.c8 [(.s 1,.p 0)] [(.exit 0,[(.s 1,.p 0)])] (.two (.pc [(.normal,[(.s 20,.p 1)])] .o .o) (.two .o (.two (.c8 [(.s 1,.p 0)] [(.exit 2,[(.s 1,.p 0)])] (.two (.pc [(.normal,[(.s 34,.p 1)])] .o .o) .o)) .o)))) .o)) (by kernel_rfl) fun c a=>by kernel_rfl
def t137:List (bM a8):=⟨137,[],[.v 10,.v 2],[1],fun c a=>Gi a.1 a.2.1⟩::t422
theorem azF:bW (b9 g) t137:=cr cp azE [] (.two .o (.two (.two .o (.c8 [(.s 5,.p 0)] [(.exit 0,[]),(.ret,[(.s 4,.c (.cy true))])] .o)) .o)) (by kernel_rfl) fun c a=>by kernel_rfl
def t481:List (bM a8):=⟨481,[],[.v 3],[1],fun c a=>CQ a.1⟩::t137
theorem azG:bW (b9 g) t481:=cr cp azF [] (.two .o (.pu [2] .o)) (by kernel_rfl) fun c a=>by kernel_rfl
def t482:List (bM a8):=⟨482,[],[.v 3],[1],fun c a=>zY a.1⟩::t481
theorem azH:bW (b9 g) t482:=cr cp azG [] (.two .o (.pu [2] .o)) (by kernel_rfl) fun c a=>by kernel_rfl
def t483:List (bM a8):=⟨483,[],[],[10],fun c a=>KW⟩::t482
theorem azI:bW (b9 g) t483:=cr cp azH [(1,2)] .o (by kernel_rfl) fun c a=>by kernel_rfl
def t513:List (bM a8):=⟨513,[],[],[10],fun c a=>KX⟩::t483
theorem azJ:bW (b9 g) t513:=cr cp azI [(1,2)] .o (by kernel_rfl) fun c a=>by kernel_rfl
def t484:List (bM a8):=⟨484,[],[.v 2,.v 0],[0],fun c a=>Gk a.1 a.2.1⟩::t513
theorem azK:bW (b9 g) t484:=cr cp azJ [] (.two .o (.two .o (.two (.two .o (.c8 [(.s 6,.p 0)] [(.exit 0,[]),(.ret,[(.s 4,.p 0)])] (.two .o (.two (.two .o (.pc [(.normal,[(.s 38,.p 1)])] .o .o)) .o)))) .o))) (by kernel_rfl) fun c a=>by kernel_rfl
def t423:List (bM a8):=⟨423,[],[.v 2,.v 0],[0,0],fun c a=>K0 a.1 a.2.1⟩::t484
theorem azL:bW (b9 g) t423:=cr cp azK [] (.two .o (.two .o (.two (.two .o (.two (.two (.c8 [(.s 6,.p 0)] [(.exit 0,[(.s 6,.p 0)])] (.two (.pc [(.normal,[(.s 34,.p 1)])] .o .o) .o)) .o) .o)) (.two (.two .o (.two (.two (.c8 [(.s 6,.p 0)] [(.exit 2,[(.s 6,.p 0)])] (.two (.pc [(.normal,[(.s 58,.p 1)])] .o .o) .o)) .o) .o)) (.two .o (.two (.c8 [(.s 6,.p 0)] [(.exit 4,[(.s 6,.p 0)])] (.two (.pc [(.normal,[(.s 106,.p 1)])] .o .o) .o)) .o)))))) (by kernel_rfl) fun c a=>by kernel_rfl
def t354:List (bM a8):=⟨354,[],[.v 2],[32,0],fun c a=>QV a.1⟩::t423
theorem azM:bW (b9 g) t354:=cr cp azL [(12,31),(34,31),(44,31)] (.two .o (.two .o (.two .o (.two .o (.two (.c8 [(.s 5,.p 0),(.s 4,.r 32)] [(.exit 0,[(.s 5,.p 0),(.s 4,.r 32)])] .o) .o))))) (by kernel_rfl) fun c a=>by kernel_rfl
def t245:List (bM a8):=⟨245,[],[.v 2],[0],fun c a=>K1 a.1⟩::t354
theorem azN:bW (b9 g) t245:=cr cp azM [] (.two .o (.two .o (.two (.pc [(.normal,[(.s 32,.p 1)])] .o .o) .o))) (by kernel_rfl) fun c a=>by kernel_rfl
def t135:List (bM a8):=⟨135,[],[.v 2],[1],fun c a=>nR a.1⟩::t245
theorem azO:bW (b9 g) t135:=cr cp azN [] (.two .o (.pc [(.normal,[(.s 2,.p 1)])] .o .o)) (by kernel_rfl) fun c a=>by kernel_rfl
def t136:List (bM a8):=⟨136,[],[.v 0],[1],fun c a=>z1 a.1⟩::t135
theorem azP:bW (b9 g) t136:=cr cp azO [] (.two .o (.pu [2] .o)) (by kernel_rfl) fun c a=>by kernel_rfl
def t57:List (bM a8):=⟨57,[],[.v 6,.v 9],[1],fun c a=>CT a.1 a.2.1⟩::t136
theorem azQ:bW (b9 g) t57:=cr cp azP [] (.two .o (.two (.pc [(.normal,[(.s 23,.p 1)])] .o .o) (.two .o (.two (.two .o (.c8 [(.s 5,.p 0),(.s 6,.p 0),(.s 7,.p 0)] [(.exit 0,[(.s 5,.p 0),(.s 6,.p 0)]),(.ret,[(.s 4,.c (.cy false))])] (.two .o (.two (.two .o (.two (.two .o (.c8 [(.s 9,.p 0)] [(.exit 2,[]),(.ret,[(.s 4,.c (.cy false))])] .o)) (.two .o (.two (.pc [(.normal,[(.s 68,.p 1)])] .o .o) (.two (.pu [87] .o) (.two (.pu [112] .o) .o)))))) .o)))) (.pu [4] .o))))) (by kernel_rfl) fun c a=>by kernel_rfl
def t58:List (bM a8):=⟨58,[],[.v 10],[1],fun c a=>Gr a.1⟩::t57
theorem azR:bW (b9 g) t58:=cr cp azQ [] (.two .o (.two (.two .o (.c8 [(.s 3,.p 0)] [(.exit 0,[]),(.ret,[(.s 2,.c (.cy false))])] (.two .o (.two (.pc [(.normal,[(.s 25,.p 1)])] .o .o) .o)))) .o)) (by kernel_rfl) fun c a=>by kernel_rfl
def t246:List (bM a8):=⟨246,[],[.v 6,.v 9,.v 1],[28],fun c a=>K3 a.1 a.2.1 a.2.2.1⟩::t58
theorem azS:bW (b9 g) t246:=cr cp azR [(10,7),(49,7)] (.two .o (.two .o (.two .o (.two (.two .o (.c8 [(.s 8,.p 0),(.s 7,.r 28)] [(.exit 0,[(.s 7,.r 28)])] (.two .o (.two (.two .o (.c8 [(.s 9,.p 0),(.s 7,.r 28),(.m 0 0,.d)] [(.exit 2,[(.s 7,.r 28),(.m 0 0,.d)])] (.two (.pc [(.normal,[(.s 40,.p 1)])] .o .o) .o))) .o)))) .o)))) (by kernel_rfl) fun c a=>by kernel_rfl
def t138:List (bM a8):=⟨138,[],[.v 26],[28],fun c a=>z8 a.1⟩::t246
theorem azT:bW (b9 g) t138:=cr cp azS [] .o (by kernel_rfl) fun c a=>by kernel_rfl
def t247:List (bM a8):=⟨247,[],[.v 12,.v 12],[1],fun c a=>QY a.1 a.2.1⟩::t138
theorem azU:bW (b9 g) t247:=cr cp azT [] (.two .o (.two .o (.two (.two .o (.c8 [(.s 5,.p 0)] [(.exit 0,[]),(.ret,[(.s 4,.c (.cy false))])] .o)) .o))) (by kernel_rfl) fun c a=>by kernel_rfl
def t139:List (bM a8):=⟨139,[],[.v 13,.v 13],[1],fun c a=>Gs a.1 a.2.1⟩::t247
theorem azV:bW (b9 g) t139:=cr cp azU [] (.two .o (.pc [(.normal,[(.s 4,.p 1)])] .o .o)) (by kernel_rfl) fun c a=>by kernel_rfl
def t142:List (bM a8):=⟨142,[],[.v 0,.v 0],[1],fun c a=>wC a.1 a.2.1⟩::t139
theorem azW:bW (b9 g) t142:=cr cp azV [] (.two .o (.pu [4] .o)) (by kernel_rfl) fun c a=>by kernel_rfl
def t140:List (bM a8):=⟨140,[],[.v 13,.v 0],[1],fun c a=>Gu a.1 a.2.1⟩::t142
theorem azX:bW (b9 g) t140:=cr cp azW [] (.two .o (.two (.two .o (.c8 [(.s 5,.p 0)] [(.exit 0,[]),(.ret,[(.s 4,.c (.cy false))])] (.two .o (.two (.two .o (.pc [(.normal,[(.s 54,.p 1)])] .o .o)) .o)))) .o)) (by kernel_rfl) fun c a=>by kernel_rfl
def t141:List (bM a8):=⟨141,[],[.v 26,.v 14],[1],fun c a=>K5 a.1 a.2.1⟩::t140
theorem azY:bW (b9 g) t141:=cr cp azX [] (.two .o (.two (.pu [17] .o) (.two (.two .o (.c8 [(.s 5,.p 0)] [(.exit 0,[]),(.ret,[(.s 4,.c (.cy true))])] (.two .o (.two (.two .o (.pc [(.normal,[(.s 69,.p 1)])] .o .o)) .o)))) .o))) (by kernel_rfl) fun c a=>by kernel_rfl
def t59:List (bM a8):=⟨59,[],[.v 26],[1],fun c a=>K6 a.1⟩::t141
theorem azZ:bW (b9 g) t59:=cr cp azY [(33,11),(43,11)] (.two .o (.two .o (.two (.pu [24] .o) (.two (.two .o (.c8 [(.s 4,.p 0)] [(.exit 0,[]),(.ret,[(.s 2,.c (.cy false))])] (.two .o (.two (.two .o (.two .o (.pc [(.normal,[(.s 72,.p 1)])] .o .o))) .o)))) (.two (.two .o (.c8 [(.s 7,.p 0)] [(.exit 2,[]),(.ret,[(.s 2,.c (.cy false))])] (.two .o (.two (.two .o (.two (.pu [95] .o) (.pc [(.normal,[(.s 9,.p 1)])] .o (.pc [(.normal,[(.s 135,.p 1)])] .o .o)))) .o)))) .o))))) (by kernel_rfl) fun c a=>by kernel_rfl
def t143:List (bM a8):=⟨143,[],[.v 6,.v 6],[1],fun c a=>Gy a.1 a.2.1⟩::t59
theorem az0:bW (b9 g) t143:=cr cp azZ [] (.two .o (.two (.two .o (.c8 [(.s 5,.p 0)] [(.exit 0,[]),(.ret,[(.s 4,.p 1)])] (.two (.pu [15] .o) .o))) .o)) (by kernel_rfl) fun c a=>by kernel_rfl
def t249:List (bM a8):=⟨249,[],[.v 6,.v 6,.v 0],[6],fun c a=>Gz a.1 a.2.1 a.2.2.1⟩::t143
theorem az1:bW (b9 g) t249:=cr cp az0 [(11,0)] (.two .o (.two .o (.two (.two .o (.c8 [(.s 2,.p 0),(.s 8,.p 0),(.s 7,.r 6),(.m 0 0,.d)] [(.exit 0,[(.s 7,.r 6),(.m 0 0,.d)])] .o)) .o))) (by kernel_rfl) fun c a=>by kernel_rfl
def t146:List (bM a8):=⟨146,[],[.v 6,.v 9,.v 1,.v 0],[0,6,1],fun c a=>GC a.1 a.2.1 a.2.2.1 a.2.2.2.1⟩::t249
theorem az2:bW (b9 g) t146:=cr cp az1 [] (.two .o (.two .o (.two (.two .o (.c8 [(.s 11,.p 0)] [(.exit 0,[]),(.ret,[(.s 8,.p 0),(.s 9,.p 6),(.s 10,.c (.cy true))])] (.two .o (.two (.two .o (.pc [(.normal,[(.s 56,.p 1)])] .o .o)) .o)))) .o))) (by kernel_rfl) fun c a=>by kernel_rfl
def t248:List (bM a8):=⟨248,[],[.v 0],[1],fun c a=>K7 a.1⟩::t146
theorem az3:bW (b9 g) t248:=cr cp az2 [] (.two .o (.pu [2] .o)) (by kernel_rfl) fun c a=>by kernel_rfl
def t144:List (bM a8):=⟨144,[],[.v 26,.v 23],[1],fun c a=>La a.1 a.2.1⟩::t248
theorem az4:bW (b9 g) t144:=cr cp az3 [] (.two .o (.two .o (.two (.two .o (.c8 [(.s 6,.p 0)] [(.exit 0,[]),(.ret,[(.s 4,.c (.cy false))])] (.two .o (.two (.two .o (.pc [(.normal,[(.s 65,.p 1)])] .o .o)) .o)))) (.two (.two .o (.c8 [(.s 8,.p 0)] [(.exit 2,[]),(.ret,[(.s 4,.c (.cy false))])] .o)) (.two (.two .o (.c8 [(.s 9,.p 0)] [(.exit 4,[]),(.ret,[(.s 4,.c (.cy false))])] (.two .o (.two (.two .o (.two .o (.two (.pc [(.normal,[(.s 121,.p 1)])] .o .o) (.two .o (.two (.pc [(.normal,[(.s 144,.p 1)])] .o .o) (.pc [(.normal,[(.s 169,.p 1)])] .o .o)))))) .o)))) (.pu [4] .o)))))) (by kernel_rfl) fun c a=>by kernel_rfl
def t60:List (bM a8):=⟨60,[],[.v 26],[1],fun c a=>Ld a.1⟩::t144
theorem az5:bW (b9 g) t60:=cr cp az4 [(12,2),(28,2)] (.two .o (.two .o (.two (.two .o (.c8 [(.s 4,.p 0),(.s 3,.r 10)] [(.exit 0,[(.s 3,.r 10)]),(.ret,[(.s 2,.c (.cy false))])] (.two .o (.two (.two .o (.two .o (.two (.two .o (.c8 [(.s 6,.p 0)] [(.exit 2,[]),(.ret,[(.s 2,.c (.cy false))])] (.two .o (.two (.pc [(.normal,[(.s 53,.p 1)])] .o .o) .o)))) .o))) .o)))) (.two (.pc [(.normal,[(.s 72,.p 1)])] .o .o) (.two (.two .o (.c8 [(.s 7,.p 0)] [(.exit 4,[]),(.ret,[(.s 2,.c (.cy false))])] (.two .o (.two (.two .o (.two (.pc [(.normal,[(.s 109,.p 1)])] .o .o) (.two (.two .o (.c8 [(.s 9,.p 0)] [(.exit 6,[]),(.ret,[(.s 2,.c (.cy false))])] (.two .o (.two (.two .o (.pc [(.normal,[(.s 162,.p 1)])] .o .o)) .o)))) (.pc [(.normal,[]),(.ret,[(.s 2,.c (.cy false))])] (.two .o (.two (.two .o (.pc [(.normal,[(.s 190,.p 1)])] .o .o)) .o)) .o)))) .o)))) .o))))) (by kernel_rfl) fun c a=>by kernel_rfl
def t145:List (bM a8):=⟨145,[],[.v 26,.v 0,.v 0,.v 0],[1],fun c a=>Le a.1 a.2.1 a.2.2.1 a.2.2.2.1⟩::t60
theorem az6:bW (b9 g) t145:=arO cp az5 (X:=Model × Int × Int × Int) (fun g p=>qY (fun cu bt cH dp=>g (cu,bt,cH,dp)) p.1 p.2.1 p.2.2.1 p.2.2.2) (fun _ a=>(a.1,a.2.1,a.2.2.1,a.2.2.2.1)) (fun _ _=>rfl) [] (.two .o (.two .o (.two (.two .o (.c8 [(.s 9,.p 0)] [(.exit 0,[]),(.ret,[(.s 8,.c (.cy true))])] (.two (.pu [21] .o) (.two (.pc [(.normal,[(.s 44,.p 1)])] .o .o) .o)))) .o))) (by kernel_rfl) fun g c a=>by kernel_rfl
def t61:List (bM a8):=⟨61,[],[.v 26],[1],fun c a=>Lh a.1⟩::t145
theorem az7:bW (b9 g) t61:=cr cp az6 [] (.two .o (.two .o (.two (.two .o (.c8 [(.s 3,.p 0)] [(.exit 0,[]),(.ret,[(.s 2,.c (.cy false))])] (.two .o (.two (.two .o (.two (.pu [54] .o) (.two .lt (.pc [(.normal,[(.s 106,.p 1)])] .o .o)))) .o)))) (.two (.two .o (.c8 [(.s 7,.p 0)] [(.exit 2,[]),(.ret,[(.s 2,.c (.cy false))])] .o)) .o)))) (by kernel_rfl) fun c a=>by kernel_rfl
def t24:List (bM a8):=⟨24,[],[.v 26],[1],fun c a=>CU a.1⟩::t61
theorem az8:bW (b9 g) t24:=cr cp az7 [] (.two .o (.two (.pc [(.normal,[(.s 20,.p 1)])] .o .o) (.pc [(.normal,[(.s 2,.p 1)])] .o .o))) (by kernel_rfl) fun c a=>by kernel_rfl
def t62:List (bM a8):=⟨62,[],[.v 26],[28],fun c a=>GJ a.1⟩::t24
theorem az9:bW (b9 g) t62:=cr cp az8 [] .o (by kernel_rfl) fun c a=>by kernel_rfl
def t25:List (bM a8):=⟨25,[],[.v 26,.v 23],[1],fun c a=>Ll a.1 a.2.1⟩::t62
theorem aAa:bW (b9 g) t25:=cr cp az9 [] (.two .o (.two .o (.two (.two .o (.c8 [(.s 6,.p 0)] [(.exit 0,[]),(.ret,[(.s 4,.c (.cy false))])] (.two .o (.two (.two .o (.pu [44] .o)) .o)))) (.two (.two .o (.c8 [(.s 8,.p 0)] [(.exit 2,[]),(.ret,[(.s 4,.c (.cy false))])] (.two .o (.two (.two .o (.c8 [(.s 9,.p 0)] [(.exit 4,[]),(.ret,[(.s 4,.c (.cy false))])] (.two .o (.two (.two .o (.pu [90] .o)) .o)))) .o)))) .o)))) (by kernel_rfl) fun c a=>by kernel_rfl
def t147:List (bM a8):=⟨147,[],[.v 6],[2],fun c a=>Lm a.1⟩::t25
theorem aAb:bW (b9 g) t147:=cr cp aAa [] (.two .o (.two .o (.two (.two .o (.c8 [(.s 3,.p 2),(.s 4,.p 0)] [(.exit 0,[(.s 3,.p 2)])] (.two .o (.two (.pc [(.normal,[(.s 3,.p 2)])] .o .o) .o)))) .o))) (by kernel_rfl) fun c a=>by kernel_rfl
def t64:List (bM a8):=⟨64,[],[.v 6,.v 9,.v 1,.v 0],[2],fun c a=>Ln a.1 a.2.1 a.2.2.1 a.2.2.2.1⟩::t147
theorem aAc:bW (b9 g) t64:=cr cp aAb [] .o (by kernel_rfl) fun c a=>by kernel_rfl
def t65:List (bM a8):=⟨65,[],[.v 0],[2],fun c a=>Lo a.1⟩::t64
theorem aAd:bW (b9 g) t65:=cr cp aAc [] .o (by kernel_rfl) fun c a=>by kernel_rfl
def t26:List (bM a8):=⟨26,[],[.v 26,.v 13],[2],fun c a=>CX a.1 a.2.1⟩::t65
theorem aAe:bW (b9 g) t26:=cr cp aAd [] (.two .o (.two .o (.two (.two .o (.c8 [(.s 5,.p 2),(.s 6,.p 0)] [(.exit 0,[(.s 5,.p 2)])] (.two .o (.two (.two .o (.pc [(.normal,[(.s 5,.p 2)])] (.pu [21] .o) (.pc [(.normal,[(.s 7,.p 0)])] .o (.pc [(.normal,[(.s 5,.p 2)])] .o .o)))) .o)))) (.pc [(.normal,[(.s 5,.p 2)])] .o .o)))) (by kernel_rfl) fun c a=>by kernel_rfl
def t8:List (bM a8):=⟨8,[],[.v 26,.v 23,.v 30],[2],fun c a=>Lp a.1 a.2.1 a.2.2.1⟩::t26
theorem Pf:bW (b9 g) t8:=cr cp aAe [] (.two .o (.two .o (.two (.pu [14] (.two .o (.pc [(.normal,[(.s 23,.p 1)])] .o (.two .o (.pu [62] .o))))) (.two .o (.two .o (.two .o (.two (.two .o (.c8 [(.s 8,.p 2),(.s 9,.p 0)] [(.exit 1,[(.s 8,.p 2)])] (.two .o (.two (.two .o (.pu [128] .o)) .o)))) .o))))))) (by kernel_rfl) fun c a=>by kernel_rfl
def t3:List (bM a8):=⟨3,[],[.v 26,.v 23,.v 30],[1],fun c a=>Lq a.1 a.2.1 a.2.2.1⟩::t8
theorem b3:bW (b9 g) t3:=cr cp Pf [] (.two .o (.two .o (.pc [(.normal,[(.s 6,.p 1)])] .o .o))) (by kernel_rfl) fun c a=>by kernel_rfl
theorem aAf:b9 g 3=some (.code (AD (b9 g) 3)):=(AE (U:=a8) (e:=⟨3,[],[.v 26,.v 23,.v 30],[1],fun c a=>Lq a.1 a.2.1 a.2.2.1⟩) (by kernel_rfl)).1
theorem aAg (m:Model)(x:c7)(r:rY):cl (b9 g) (.fn 3 [] []) [wm m,wk x,wo r] []=some (.bool true,[],0):=b3.hd [] [] () (m,x,r,()) [] _ true rfl (.nil []) ⟨_,rfl,_,rfl,_,rfl,rfl⟩ (ayr m x r)
end
end Go.Abs.bZ
