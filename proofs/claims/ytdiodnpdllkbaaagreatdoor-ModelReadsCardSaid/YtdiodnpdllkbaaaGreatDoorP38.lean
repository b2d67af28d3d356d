/- Texts of this claim, joined and written short by a program. -/
import Derived.Test.YtdiodnpdllkbaaaGreatDoorP34
import Derived.Test.YtdiodnpdllkbaaaGreatDoorP35
import Derived.Test.YtdiodnpdllkbaaaGreatDoorP36
import Derived.Test.YtdiodnpdllkbaaaGreatDoorP37
import Derived.Test.YtdiodnpdllkbaaaGreatDoorP00
set_option linter.unusedVariables false
set_option linter.unusedSimpArgs false
set_option linter.unusedSectionVars false
set_option maxRecDepth 100000
namespace Go.Abs.bw
open Go Go.Abs Go.Abs.gK Go.Abs.Lex
noncomputable section
variable{g:Nat->Option Obj}
def t0:List (cn bn):=[]
theorem gU:cG (cT g) t0:=fun _ h=>by cases h
def t4:List (cn bn):=⟨4,[],[],[1],fun c a=>Nh⟩::t0
theorem cL:cG (cT g) t4:=gU.cons (tI rfl fun H a r h=>by
 cases h
 exact Dy (spec:=Dd [] (.bool true)) (by kernel_rfl) rfl (by kernel_rfl) H)
def t78:List (cn bn):=⟨78,[],[.v 3],[1],fun c a=>yT a.1⟩::t4
theorem Qt:cG (cT g) t78:=dh di cL [] (.two .o (.pu [2] .o)) (by kernel_rfl) fun c a=>by kernel_rfl
def t81:List (cn bn):=⟨81,[],[.v 3],[1],fun c a=>yU a.1⟩::t78
theorem J9:cG (cT g) t81:=dh di Qt [] (.two .o (.pu [2] .o)) (by kernel_rfl) fun c a=>by kernel_rfl
def t80:List (cn bn):=⟨80,[],[.v 3],[1],fun c a=>DT a.1⟩::t81
theorem Qu:cG (cT g) t80:=dh di J9 [] (.two .o (.pc [(.normal,[(.s 2,.p 1)])] .o .o)) (by kernel_rfl) fun c a=>by kernel_rfl
def t83:List (cn bn):=⟨83,[],[.v 3],[1],fun c a=>A9 a.1⟩::t80
theorem Qv:cG (cT g) t83:=dh di Qu [] (.two .o (.pu [2] .o)) (by kernel_rfl) fun c a=>by kernel_rfl
def t228:List (cn bn):=⟨228,[],[.v 2,.v 2],[1],fun c a=>Ni a.1 a.2.1⟩::t83
theorem arw:cG (cT g) t228:=dh di Qv [] (.two .o (.pc [(.normal,[(.s 4,.p 1)])] .o .o)) (by kernel_rfl) fun c a=>by kernel_rfl
def t141:List (cn bn):=⟨141,[],[.v 2,.v 2],[1],fun c a=>HL a.1 a.2.1⟩::t228
theorem arx:cG (cT g) t141:=dh di arw [] .o (by kernel_rfl) fun c a=>by kernel_rfl
def t142:List (cn bn):=⟨142,[],[.v 2,.v 3],[0],fun c a=>strings_IndexByte a.1 a.2.1⟩::t141
theorem ary:cG (cT g) t142:=arx.cons (tI rfl fun H ⟨s,c,_⟩ r h=>by
 cases h
 exact Dy (spec:=F8) (by kernel_rfl) rfl rfl H)
def t82:List (cn bn):=⟨82,[],[.v 2],[0],fun c a=>A7 a.1⟩::t142
theorem Qw:cG (cT g) t82:=dh di ary [(5,2)] (.two .o (.two (.two .o (.fe [(.s 7,.p 0)] [(.exit 0,[]),(.ret,[(.s 2,.c (.int .i64 2))])] .o)) (.two (.pc [(.normal,[(.s 22,.p 1)])] .o .o) .o))) (by kernel_rfl) fun c a=>by kernel_rfl
def t84:List (cn bn):=⟨84,[],[.v 2],[1],fun c a=>DP a.1⟩::t82
theorem Qx:cG (cT g) t84:=dh di Qw [] (.two .o (.pc [(.normal,[(.s 2,.p 1)])] .o .o)) (by kernel_rfl) fun c a=>by kernel_rfl
def t79:List (cn bn):=⟨79,[],[.v 2,.f [3] 1],[0],fun c a=>A8 a.1 a.2.1⟩::t84
theorem Qy:cG (cT g) t79:=dh di Qx [] (.two .o (.two .o (.two (.fe [(.s 5,.p 0)] [(.exit 0,[(.s 5,.p 0)])] (.two (.pc [(.normal,[(.s 16,.p 1)])] .o .o) .o)) .o))) (by kernel_rfl) fun c a=>by kernel_rfl
def t140:List (cn bn):=⟨140,[],[.v 3],[1],fun c a=>Ba a.1⟩::t79
theorem Qz:cG (cT g) t140:=dh di Qy [] .o (by kernel_rfl) fun c a=>by kernel_rfl
def t77:List (cn bn):=⟨77,[],[.v 2],[0],fun c a=>DS a.1⟩::t140
theorem QA:cG (cT g) t77:=dh di Qz [] (.two .o (.two .o (.two (.fe [(.s 3,.p 0)] [(.exit 0,[(.s 3,.p 0)]),(.ret,[(.s 2,.p 0)])] .o) .o))) (by kernel_rfl) fun c a=>by kernel_rfl
def t28:List (cn bn):=⟨28,[],[.v 2],[0],fun c a=>pU a.1⟩::t77
theorem QB:cG (cT g) t28:=QA.cons (tI rfl fun H ⟨w,_⟩ r h=>by
 cases h
 exact an5 ⟨X5 Qt.hd,X6 J9.hd,X7 Qu.hd,X8 Qv.hd,X9 Qx.hd,Ya Qw.hd,Yb Qy.hd,Yc QA.hd,Yd Qz.hd,by kernel_rfl,by kernel_rfl,by kernel_rfl,by kernel_rfl,⟨Co,by kernel_rfl,by kernel_rfl⟩⟩ w H)
def t72:List (cn bn):=⟨72,[],[.v 2],[0,1],fun c a=>A6 a.1⟩::t28
theorem aaV:cG (cT g) t72:=QB.cons (tI rfl fun H ⟨w,_⟩ r h=>aq3 (by kernel_rfl) (fun H0 a r h=>QB.hd H0 [] () (a,()) [] _ r rfl (.nil H0) ⟨_,rfl,rfl⟩ h) (sp:=Cp) (by kernel_rfl) (fun s hs=>by simp[Cp,hs]) H w r h)
def t29:List (cn bn):=⟨29,[],[.v 10],[6,1,1],fun c a=>Bn a.1⟩::t72
theorem arz:cG (cT g) t29:=aaV.cons (tI rfl fun H ⟨x,_⟩ r h=>aqA (by kernel_rfl) (fun H0 a r h=>QB.hd H0 [] () (a,()) [] _ r rfl (.nil H0) ⟨_,rfl,rfl⟩ h) (fun H0 a r h=>aaV.hd H0 [] () (a,()) [] _ r rfl (.nil H0) ⟨_,rfl,rfl⟩ h) H x r h)
def t10:List (cn bn):=⟨10,[],[.v 2],[10],fun c a=>tt a.1⟩::t29
theorem arA:cG (cT g) t10:=arz.cons (tI rfl fun H ⟨w,_⟩ r h=>ars ⟨X5 Qt.hd,X6 J9.hd,X7 Qu.hd,X8 Qv.hd,X9 Qx.hd,Ya Qw.hd,Yb Qy.hd,Yc QA.hd,Yd Qz.hd,by kernel_rfl,by kernel_rfl,by kernel_rfl,by kernel_rfl,⟨Co,by kernel_rfl,by kernel_rfl⟩⟩ (by kernel_rfl) H w r h)
def t9:List (cn bn):=⟨9,[],[.v 10,.v 2],[2],fun c a=>strings_Join a.1 a.2.1⟩::t10
theorem arB:cG (cT g) t9:=arA.cons (tI rfl fun H ⟨x,s,_⟩ r h=>Dy (spec:=Cq) (by kernel_rfl) (arv x s) (aru h) H)
def t27:List (cn bn):=⟨27,[],[.v 0],[2],fun c a=>strconv_Itoa a.1⟩::t9
theorem arC:cG (cT g) t27:=arB.cons (tI rfl fun H ⟨n,_⟩ r h=>Dy (spec:=Cr) (by kernel_rfl) rfl (art h) H)
def t18:List (cn bn):=⟨18,[],[.v 6,.v 9],[1],fun c a=>HN a.1 a.2.1⟩::t27
theorem arD:cG (cT g) t18:=dh di arC [] (.two .o (.two (.two .o (.fe [(.s 5,.p 0)] [(.exit 0,[]),(.ret,[(.s 4,.c (.b0 false))])] (.two .o (.two (.pc [(.normal,[(.s 27,.p 1)])] .o .o) .o)))) (.pu [4] .o))) (by kernel_rfl) fun c a=>by kernel_rfl
def t5:List (cn bn):=⟨5,[],[.v 26],[1],fun c a=>HU a.1⟩::t18
theorem et:cG (cT g) t5:=dh di arD [] (.two .o (.two (.pc [(.normal,[(.s 56,.p 1)])] .o .o) (.two (.two .o (.fe [(.s 3,.p 0)] [(.exit 0,[]),(.ret,[(.s 2,.c (.b0 false))])] .o)) (.two (.two .o (.fe [(.s 4,.p 0)] [(.exit 2,[]),(.ret,[(.s 2,.c (.b0 false))])] .o)) (.two (.two .o (.fe [(.s 5,.p 0)] [(.exit 4,[]),(.ret,[(.s 2,.c (.b0 false))])] (.two .o (.two (.pc [(.normal,[(.s 111,.p 1)])] .o .o) .o)))) (.two (.two .o (.fe [(.s 6,.p 0)] [(.exit 6,[]),(.ret,[(.s 2,.c (.b0 false))])] (.two .o (.two (.two .o (.two (.pc [(.normal,[(.s 150,.p 1)])] .o .o) (.two .o (.fe [(.s 8,.p 0)] [(.exit 8,[]),(.ret,[(.s 2,.c (.b0 false))])] .o)))) .o)))) .o)))))) (by kernel_rfl) fun c a=>by kernel_rfl
def t216:List (cn bn):=⟨216,[],[.v 27,.v 1],[0],fun c a=>Wt a.1 a.2.1⟩::t5
theorem arE:cG (cT g) t216:=dh di et [] (.two .o (.two (.two .o (.fe [(.s 8,.p 0)] [(.exit 0,[]),(.ret,[(.s 4,.p 0)])] .o)) .o)) (by kernel_rfl) fun c a=>by kernel_rfl
def t123:List (cn bn):=⟨123,[],[.v 27,.v 1],[1],fun c a=>Nn a.1 a.2.1⟩::t216
theorem arF:cG (cT g) t123:=dh di arE [] .o (by kernel_rfl) fun c a=>by kernel_rfl
def t52:List (cn bn):=⟨52,[],[.v 27],[1],fun c a=>Bc a.1⟩::t123
theorem arG:cG (cT g) t52:=dh di arF [] .o (by kernel_rfl) fun c a=>by kernel_rfl
def t130:List (cn bn):=⟨130,[],[.v 6,.f [0] 1],[0],fun c a=>Wu a.1 a.2.1⟩::t52
theorem arH:cG (cT g) t130:=dh di arG [] (.two .o (.two (.two .o (.fe [(.s 8,.p 0)] [(.exit 0,[]),(.ret,[(.s 4,.p 0)])] .o)) .o)) (by kernel_rfl) fun c a=>by kernel_rfl
def t64:List (cn bn):=⟨64,[],[.v 6,.f [0] 1],[1],fun c a=>DW a.1 a.2.1⟩::t130
theorem arI:cG (cT g) t64:=dh di arH [] .o (by kernel_rfl) fun c a=>by kernel_rfl
def t55:List (cn bn):=⟨55,[],[.v 0,.v 0,.v 0],[1],fun c a=>HV a.1 a.2.1 a.2.2.1⟩::t64
theorem arJ:cG (cT g) t55:=dh di arI [] (.two .o (.pu [6] .o)) (by kernel_rfl) fun c a=>by kernel_rfl
def t124:List (cn bn):=⟨124,[],[.v 0],[1],fun c a=>Np a.1⟩::t55
theorem arK:cG (cT g) t124:=dh di arJ [] .o (by kernel_rfl) fun c a=>by kernel_rfl
def t53:List (cn bn):=⟨53,[],[.v 6],[1],fun c a=>HW a.1⟩::t124
theorem arL:cG (cT g) t53:=dh di arK [] .o (by kernel_rfl) fun c a=>by kernel_rfl
def t54:List (cn bn):=⟨54,[],[.v 2],[1],fun c a=>yX a.1⟩::t53
theorem arM:cG (cT g) t54:=dh di arL [] (.two .o (.pc [(.normal,[(.s 2,.p 1)])] .o .o)) (by kernel_rfl) fun c a=>by kernel_rfl
def t125:List (cn bn):=⟨125,[6],[.v 0],[1],fun c a=>Nq c a.1⟩::t54
theorem arN:cG (cT g) t125:=dh di arM [] (.two .o (.pu [3] .o)) (by kernel_rfl) fun c a=>by kernel_rfl
def t56:List (cn bn):=⟨56,[],[.v 6,.v 6],[1],fun c a=>HX a.1 a.2.1⟩::t125
theorem arO:cG (cT g) t56:=dh di arN [] (.two .o (.pc [(.normal,[(.s 4,.p 1)])] .o .o)) (by kernel_rfl) fun c a=>by kernel_rfl
def t57:List (cn bn):=⟨57,[],[.v 8],[1],fun c a=>HY a.1⟩::t56
theorem arP:cG (cT g) t57:=dh di arO [] (.two .o (.pc [(.normal,[]),(.ret,[(.s 2,.p 1)])] (.two .o (.pc [(.normal,[(.s 5,.p 1)])] .o (.two (.pu [2] .o) .o))) .o)) (by kernel_rfl) fun c a=>by kernel_rfl
def t58:List (cn bn):=⟨58,[],[.v 8],[1],fun c a=>Bd a.1⟩::t57
theorem arQ:cG (cT g) t58:=dh di arP [] (.two .o (.pu [2] .o)) (by kernel_rfl) fun c a=>by kernel_rfl
def t59:List (cn bn):=⟨59,[],[.v 6,.v 6],[0],fun c a=>tu a.1 a.2.1⟩::t58
theorem arR:cG (cT g) t59:=dh di arQ [] (.two .o (.two .o (.two (.two .o (.fe [(.s 5,.p 0),(.s 10,.p 0)] [(.exit 0,[(.s 5,.p 0)])] .o)) .o))) (by kernel_rfl) fun c a=>by kernel_rfl
def t19:List (cn bn):=⟨19,[],[.v 6,.v 9],[1],fun c a=>Bg a.1 a.2.1⟩::t59
theorem arS:cG (cT g) t19:=dh di arR [(19,1),(22,100),(46,1)] (.two .o (.two .o (.two .o (.two .o (.two (.two .o (.fe [(.s 25,.p 0),(.m 2 0,.p 0),(.m 1 0,.p 0),(.s 5,.r 100),(.m 0 0,.d)] [(.exit 0,[(.m 2 0,.p 0),(.m 1 0,.p 0)]),(.ret,[(.s 4,.c (.b0 false))])] .o)) (.pu [4] .o)))))) (by kernel_rfl) fun c a=>by kernel_rfl
def t20:List (cn bn):=⟨20,[],[.v 10],[1],fun c a=>DY a.1⟩::t19
theorem arT:cG (cT g) t20:=dh di arS [(6,100)] (.two .o (.two .o (.two (.two .o (.fe [(.s 9,.p 0),(.s 3,.r 100),(.m 0 0,.d)] [(.exit 0,[]),(.ret,[(.s 2,.c (.b0 false))])] (.two .o (.two .o (.two (.two .o (.two (.pc [(.normal,[(.s 20,.p 1)])] .o .o) .o)) .o))))) .o))) (by kernel_rfl) fun c a=>by kernel_rfl
def t60:List (cn bn):=⟨60,[],[.v 28,.v 0],[28],fun c a=>DJ a.1 a.2.1⟩::t20
theorem arU:cG (cT g) t60:=arT.cons (tI rfl fun H ⟨x,n,_⟩ r h=>aou ⟨by kernel_rfl,by kernel_rfl,by kernel_rfl⟩ H x n r h)
def t21:List (cn bn):=⟨21,[],[.v 6,.v 9,.v 1],[28],fun c a=>D0 a.1 a.2.1 a.2.2.1⟩::t60
theorem arV:cG (cT g) t21:=dh di arU [(27,7)] (.two .o (.two .o (.two .o (.two (.two .o (.fe [(.s 16,.p 0),(.s 7,.r 28)] [(.exit 0,[(.s 7,.r 28)])] .o)) .o)))) (by kernel_rfl) fun c a=>by kernel_rfl
def t26:List (cn bn):=⟨26,[],[.v 0,.v 0],[1],fun c a=>kg a.1 a.2.1⟩::t21
theorem arW:cG (cT g) t26:=dh di arV [] (.two .o (.pu [4] .o)) (by kernel_rfl) fun c a=>by kernel_rfl
def t66:List (cn bn):=⟨66,[],[.v 0,.v 0],[1],fun c a=>y1 a.1 a.2.1⟩::t26
theorem arX:cG (cT g) t66:=dh di arW [] (.two .o (.pu [4] .o)) (by kernel_rfl) fun c a=>by kernel_rfl
def t61:List (cn bn):=⟨61,[],[.v 29,.v 13],[1],fun c a=>D2 a.1 a.2.1⟩::t66
theorem arY:cG (cT g) t61:=dh di arX [] (.two .o (.two .o (.two (.two .o (.fe [(.s 5,.p 0),(.s 11,.p 0)] [(.exit 0,[]),(.ret,[(.s 4,.c (.b0 false))])] (.two .o (.two .o (.two (.two .o (.two (.pc [(.normal,[(.s 37,.p 1)])] .o .o) .o)) .o))))) .o))) (by kernel_rfl) fun c a=>by kernel_rfl
def t197:List (cn bn):=⟨197,[],[.v 9,.f [8] 1],[0],fun c a=>Wv a.1 a.2.1⟩::t61
theorem arZ:cG (cT g) t197:=dh di arY [] (.two .o (.two (.two .o (.fe [(.s 8,.p 0)] [(.exit 0,[]),(.ret,[(.s 4,.p 0)])] .o)) .o)) (by kernel_rfl) fun c a=>by kernel_rfl
def t127:List (cn bn):=⟨127,[],[.v 9,.f [8] 1],[1],fun c a=>Nu a.1 a.2.1⟩::t197
theorem ar0:cG (cT g) t127:=dh di arZ [] .o (by kernel_rfl) fun c a=>by kernel_rfl
def t128:List (cn bn):=⟨128,[14,29],[.v 8],[1],fun c a=>H5 c.1 c.2 a.1⟩::t127
theorem ar1:cG (cT g) t128:=dh di ar0 [] (.two .o (.pc [(.normal,[(.s 4,.p 1)])] .o .o)) (by kernel_rfl) fun c a=>by kernel_rfl
def t62:List (cn bn):=⟨62,[],[.v 29,.v 14],[1],fun c a=>H6 a.1 a.2.1⟩::t128
theorem ar2:cG (cT g) t62:=dh di ar1 [] (.two .o (.pc [(.normal,[(.s 4,.p 1)])] .o .o)) (by kernel_rfl) fun c a=>by kernel_rfl
def t129:List (cn bn):=⟨129,[],[.v 12,.v 12],[1],fun c a=>Bi a.1 a.2.1⟩::t62
theorem ar3:cG (cT g) t129:=dh di ar2 [] (.two .o (.two .o (.two (.two .o (.fe [(.s 13,.p 0)] [(.exit 0,[]),(.ret,[(.s 4,.c (.b0 false))])] .o)) .o))) (by kernel_rfl) fun c a=>by kernel_rfl
def t63:List (cn bn):=⟨63,[],[.v 13,.v 0,.v 0,.v 0],[1],fun c a=>H8 a.1 a.2.1 a.2.2.1 a.2.2.2.1⟩::t129
theorem ar4:cG (cT g) t63:=dh di ar3 [(14,11)] (.two .o (.pc [(.normal,[(.s 8,.p 1)])] .o .o)) (by kernel_rfl) fun c a=>by kernel_rfl
def t22:List (cn bn):=⟨22,[],[.v 29],[1],fun c a=>H9 a.1⟩::t63
theorem ar5:cG (cT g) t22:=dh di ar4 [] (.two .o (.two (.pu [23] .o) (.two (.two .o (.fe [(.s 28,.p 0)] [(.exit 0,[]),(.ret,[(.s 2,.c (.b0 false))])] (.two .o (.two .o (.two (.two .o (.pc [(.normal,[]),(.ret,[(.s 2,.c (.b0 false))])] (.two .o (.two .o (.two .o (.two (.pc [(.normal,[(.s 60,.p 1)])] .o .o) (.pc [(.normal,[(.s 61,.p 1)])] .o .o))))) (.two .o (.two (.two .o (.pc [(.normal,[(.s 6,.p 0),(.s 7,.p 0)])] .o (.pc [(.normal,[(.s 103,.p 1)])] .o .o))) .o)))) .o))))) .o))) (by kernel_rfl) fun c a=>by kernel_rfl
def t65:List (cn bn):=⟨65,[29],[.v 0],[1],fun c a=>Ia c a.1⟩::t22
theorem ar6:cG (cT g) t65:=dh di ar5 [] (.two .o (.pu [3] .o)) (by kernel_rfl) fun c a=>by kernel_rfl
def t23:List (cn bn):=⟨23,[],[.v 29],[1],fun c a=>Ib a.1⟩::t65
theorem ar7:cG (cT g) t23:=dh di ar6 [(17,2)] (.two .o (.two .o (.two (.two .o (.fe [(.s 10,.p 0),(.s 3,.r 10)] [(.exit 0,[(.s 3,.r 10)]),(.ret,[(.s 2,.c (.b0 false))])] (.two .o (.two .o (.two (.two .o (.two .o (.pc [(.normal,[(.s 28,.p 1)])] .o .o))) .o))))) (.pc [(.normal,[(.s 2,.p 1)])] .o .o)))) (by kernel_rfl) fun c a=>by kernel_rfl
def t214:List (cn bn):=⟨214,[],[.v 0],[1],fun c a=>Ic a.1⟩::t23
theorem ar8:cG (cT g) t214:=dh di ar7 [] .o (by kernel_rfl) fun c a=>by kernel_rfl
def t121:List (cn bn):=⟨121,[],[.v 0,.v 0],[0],fun c a=>Ie a.1 a.2.1⟩::t214
theorem ar9:cG (cT g) t121:=dh di ar8 [] .o (by kernel_rfl) fun c a=>by kernel_rfl
def t67:List (cn bn):=⟨67,[],[.v 6,.v 6],[0],fun c a=>D7 a.1 a.2.1⟩::t121
theorem asa:cG (cT g) t67:=dh di ar9 [] (.two .o (.two (.two .o (.fe [(.s 11,.p 0)] [(.exit 0,[]),(.ret,[(.s 4,.p 0)])] .o)) .o)) (by kernel_rfl) fun c a=>by kernel_rfl
def t85:List (cn bn):=⟨85,[],[.v 6,.v 9,.v 1,.v 0],[0,6,1],fun c a=>Ea a.1 a.2.1 a.2.2.1 a.2.2.2.1⟩::t67
theorem asb:cG (cT g) t85:=dh di asa [(55,0)] (.two .o (.two (.pc [(.normal,[(.s 24,.p 1)])] .o .o) (.two (.two .o (.fe [(.s 27,.p 0)] [(.exit 0,[]),(.ret,[(.s 8,.p 0),(.s 9,.r 6),(.s 10,.c (.b0 true))])] (.two .o (.two .o (.two (.two .o (.two .o (.two (.pc [(.normal,[(.s 51,.p 1)])] .o .o) (.two .o (.two (.two .o (.fe [(.s 13,.p 0),(.s 15,.p 0),(.s 14,.r 6),(.m 1 0,.d)] [(.exit 2,[(.s 14,.r 6),(.m 1 0,.d)])] .o)) .o))))) .o))))) .o))) (by kernel_rfl) fun c a=>by kernel_rfl
def t131:List (cn bn):=⟨131,[],[.v 29,.v 21],[1],fun c a=>Ij a.1 a.2.1⟩::t85
theorem asc:cG (cT g) t131:=dh di asb [] (.two .o (.two .o (.two .o (.two .o (.two .o (.pc [(.normal,[(.s 51,.p 1)])] .o (.two (.pu [4] .o) (.pu [4] .o)))))))) (by kernel_rfl) fun c a=>by kernel_rfl
def t219:List (cn bn):=⟨219,[],[.v 20,.f [13] 1],[0],fun c a=>Wy a.1 a.2.1⟩::t131
theorem asd:cG (cT g) t219:=dh di asc [] (.two .o (.two (.two .o (.fe [(.s 8,.p 0)] [(.exit 0,[]),(.ret,[(.s 4,.p 0)])] .o)) .o)) (by kernel_rfl) fun c a=>by kernel_rfl
def t132:List (cn bn):=⟨132,[],[.v 20,.f [13] 1],[1],fun c a=>NC a.1 a.2.1⟩::t219
theorem ase:cG (cT g) t132:=dh di asd [] .o (by kernel_rfl) fun c a=>by kernel_rfl
def t133:List (cn bn):=⟨133,[29],[.v 13],[1],fun c a=>Ik c a.1⟩::t132
theorem asf:cG (cT g) t133:=dh di ase [] .o (by kernel_rfl) fun c a=>by kernel_rfl
def t68:List (cn bn):=⟨68,[],[.v 29,.v 23],[1],fun c a=>Il a.1 a.2.1⟩::t133
theorem asg:cG (cT g) t68:=dh di asf [] (.two .o (.two .o (.two (.two .o (.fe [(.s 5,.p 0),(.s 13,.p 0)] [(.exit 0,[]),(.ret,[(.s 4,.c (.b0 false))])] (.two .o (.two .o (.two (.two .o (.two (.pc [(.normal,[(.s 39,.p 1)])] .o .o) .o)) .o))))) (.two .o (.two (.two .o (.fe [(.s 5,.p 0),(.s 46,.p 0)] [(.exit 2,[]),(.ret,[(.s 4,.c (.b0 false))])] (.two .o (.two .o (.two (.two .o (.two (.pc [(.normal,[(.s 59,.p 1)])] .o .o) .o)) .o))))) (.pc [(.normal,[(.s 4,.p 1)])] .o .o)))))) (by kernel_rfl) fun c a=>by kernel_rfl
def t24:List (cn bn):=⟨24,[],[.v 29],[1],fun c a=>Iq a.1⟩::t68
theorem ash:cG (cT g) t24:=dh di asg [] (.two .o (.two .o (.two (.two .o (.fe [(.s 18,.p 0)] [(.exit 0,[]),(.ret,[(.s 2,.c (.b0 false))])] (.two .o (.two .o (.two (.two .o (.two (.pc [(.normal,[(.s 45,.p 1)])] .o .o) (.two (.two .o (.fe [(.s 55,.p 0)] [(.exit 2,[]),(.ret,[(.s 2,.c (.b0 false))])] (.two .o (.two .o (.two (.two .o (.two .o (.pc [(.normal,[(.s 86,.p 1)])] .o .o))) .o))))) (.pc [(.normal,[]),(.ret,[(.s 2,.c (.b0 false))])] (.two .o (.two (.two .o (.pc [(.normal,[(.s 116,.p 1)])] .o .o)) .o)) .o)))) .o))))) .o))) (by kernel_rfl) fun c a=>by kernel_rfl
def t25:List (cn bn):=⟨25,[],[.v 29],[1],fun c a=>Wq a.1⟩::t24
theorem asi:cG (cT g) t25:=ash.cons (tI rfl fun H ⟨j,_⟩ r h=>by
 cases h
 exact Dy (spec:=BZ) (by kernel_rfl) (by simp[Jm,bW,bs,WL]) (aoX j) H)
def t6:List (cn bn):=⟨6,[],[.v 26],[1],fun c a=>ou a.1⟩::t25
theorem gz:cG (cT g) t6:=dh di asi [] (.two .o (.two (.pc [(.normal,[(.s 21,.p 1)])] .o .o) (.two .lt (.pc [(.normal,[(.s 2,.p 1)])] .o .o)))) (by kernel_rfl) fun c a=>by kernel_rfl
def t7:List (cn bn):=⟨7,[],[.v 26,.v 0],[2],fun c a=>w6 a.1 a.2.1⟩::t6
theorem jI:cG (cT g) t7:=dh di gz [(35,2)] (.two .o (.two (.pc [(.normal,[(.s 19,.p 1)])] .o .o) (.two .o (.two .o (.two (.two .o (.fe [(.s 28,.p 0),(.s 6,.r 10)] [(.exit 0,[(.s 6,.r 10)])] .o)) .o))))) (by kernel_rfl) fun c a=>by kernel_rfl
def t30:List (cn bn):=⟨30,[],[.v 17,.f [16] 1],[0],fun c a=>Iv a.1 a.2.1⟩::t7
theorem asj:cG (cT g) t30:=dh di jI [] (.two .o (.two (.two .o (.fe [(.s 8,.p 0)] [(.exit 0,[]),(.ret,[(.s 4,.p 0)])] .o)) .o)) (by kernel_rfl) fun c a=>by kernel_rfl
def t31:List (cn bn):=⟨31,[10],[.v 16],[1],fun c a=>Iw c a.1⟩::t30
theorem asl:cG (cT g) t31:=dh di asj [] .o (by kernel_rfl) fun c a=>by kernel_rfl
def t32:List (cn bn):=⟨32,[],[.v 25,.f [24] 1],[0],fun c a=>Ix a.1 a.2.1⟩::t31
theorem asm:cG (cT g) t32:=dh di asl [] (.two .o (.two (.two .o (.fe [(.s 8,.p 0)] [(.exit 0,[]),(.ret,[(.s 4,.p 0)])] .o)) .o)) (by kernel_rfl) fun c a=>by kernel_rfl
def t34:List (cn bn):=⟨34,[],[.v 6,.v 6],[1],fun c a=>Iz a.1 a.2.1⟩::t32
theorem asn:cG (cT g) t34:=dh di asm [] (.two .o (.two .o (.two (.two .o (.fe [(.s 13,.p 0)] [(.exit 0,[]),(.ret,[(.s 4,.c (.b0 false))])] .o)) .o))) (by kernel_rfl) fun c a=>by kernel_rfl
def t33:List (cn bn):=⟨33,[0,6],[.v 24],[1],fun c a=>Ei c.1 c.2 a.1⟩::t34
theorem aso:cG (cT g) t33:=dh di asn [] (.two .o (.pc [(.normal,[(.s 4,.p 1)])] .o .o)) (by kernel_rfl) fun c a=>by kernel_rfl
def t8:List (cn bn):=⟨8,[],[.v 26,.v 2],[0,0],fun c a=>Ej a.1 a.2.1⟩::t33
theorem L6:cG (cT g) t8:=dh di aso [] (.two .o (.two .o (.two .o (.two (.pc [(.normal,[(.s 41,.p 1)])] .o .o) (.two .o (.two .o (.two .o (.two .o (.two .o (.two (.pu [69] .o) .o)))))))))) (by kernel_rfl) fun c a=>by kernel_rfl
def t39:List (cn bn):=⟨39,[],[.v 6,.v 9,.v 1,.v 0],[2],fun c a=>NL a.1 a.2.1 a.2.2.1 a.2.2.2.1⟩::t8
theorem asp:cG (cT g) t39:=dh di L6 [(35,2)] (.two .o (.two .o (.two .o (.two .o (.two (.two .o (.fe [(.s 28,.p 0),(.s 12,.r 10)] [(.exit 0,[(.s 12,.r 10)])] .o)) .o))))) (by kernel_rfl) fun c a=>by kernel_rfl
def t11:List (cn bn):=⟨11,[],[.v 26,.v 0],[2],fun c a=>Ek a.1 a.2.1⟩::t39
theorem asq:cG (cT g) t11:=dh di asp [] .o (by kernel_rfl) fun c a=>by kernel_rfl
def t40:List (cn bn):=⟨40,[],[.v 26,.v 1],[28],fun c a=>NM a.1 a.2.1⟩::t11
theorem asr:cG (cT g) t40:=dh di asq [] .o (by kernel_rfl) fun c a=>by kernel_rfl
def t12:List (cn bn):=⟨12,[],[.v 26],[28],fun c a=>IA a.1⟩::t40
theorem ass:cG (cT g) t12:=dh di asr [] .o (by kernel_rfl) fun c a=>by kernel_rfl
def t3:List (cn bn):=⟨3,[],[.v 26,.v 3],[1],fun c a=>IB a.1 a.2.1⟩::t12
theorem b1:cG (cT g) t3:=dh di ass [(40,2)] (.two .o (.two .o (.two (.pc [(.normal,[(.s 20,.p 1)])] .o .o) (.two (.two .o (.fe [(.s 24,.p 0)] [(.exit 0,[]),(.ret,[(.s 4,.c (.b0 false))])] (.two .o (.two .o (.two (.two .o (.two .o (.two .o (.two .o (.pu [69] .o))))) .o))))) (.pc [(.normal,[(.s 4,.p 1)])] .o .o))))) (by kernel_rfl) fun c a=>by kernel_rfl
theorem ast:cT g 3=some (.code (BF (cT g) 3)):=(Jl (J:=bn) (e:=⟨3,[],[.v 26,.v 3],[1],fun c a=>IB a.1 a.2.1⟩) (by kernel_rfl)).1
theorem asu (m:Model)(b0:Int)(hb:0<=b0/\b0<=255):bZ (cT g) (.fn 3 [] []) [vn m,.int .u8 b0] []=some (.bool true,[],0):=b1.hd [] [] () (m,b0,()) [] _ true rfl (.nil []) ⟨_,rfl,_,rfl,rfl⟩ (aqu m b0 hb)
end
end Go.Abs.bw
