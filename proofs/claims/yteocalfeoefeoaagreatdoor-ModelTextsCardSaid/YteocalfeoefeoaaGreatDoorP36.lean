/- Texts of this claim, joined and written short by a program. -/
import Derived.Test.YteocalfeoefeoaaGreatDoorP33
import Derived.Test.YteocalfeoefeoaaGreatDoorP32
import Derived.Test.YteocalfeoefeoaaGreatDoorP35
import Derived.Test.YteocalfeoefeoaaGreatDoorP00
set_option linter.unusedVariables false
set_option linter.unusedSimpArgs false
set_option linter.unusedSectionVars false
set_option maxRecDepth 100000
namespace Go.Abs.mN
open Go Go.Abs Go.Abs.gK Go.Abs.Lex
noncomputable section
variable{g:Nat->Option Obj}
def t0:List (cn bn):=[]
theorem gU:cG (cT g) t0:=fun _ h=>by cases h
def t4:List (cn bn):=⟨4,[],[],[1],fun c a=>Uc⟩::t0
theorem cL:cG (cT g) t4:=gU.cons (tI rfl fun H a r h=>by
 cases h;exact Dy (spec:=Dd [] (.bool true)) (by kernel_rfl) rfl (by kernel_rfl) H)
def t138:List (cn bn):=⟨138,[],[.v 3],[1],fun c a=>yT a.1⟩::t4
theorem aM3:cG (cT g) t138:=dh di cL [] (.two .o (.pu [2] .o)) (by kernel_rfl) fun c a=>by kernel_rfl
def t141:List (cn bn):=⟨141,[],[.v 3],[1],fun c a=>yU a.1⟩::t138
theorem UR:cG (cT g) t141:=dh di aM3 [] (.two .o (.pu [2] .o)) (by kernel_rfl) fun c a=>by kernel_rfl
def t140:List (cn bn):=⟨140,[],[.v 3],[1],fun c a=>DT a.1⟩::t141
theorem Qz:cG (cT g) t140:=dh di UR [] (.two .o (.pc [(.normal,[(.s 2,.p 1)])] .o .o)) (by kernel_rfl) fun c a=>by kernel_rfl
def t143:List (cn bn):=⟨143,[],[.v 3],[1],fun c a=>A9 a.1⟩::t140
theorem aL4:cG (cT g) t143:=dh di Qz [] (.two .o (.pu [2] .o)) (by kernel_rfl) fun c a=>by kernel_rfl
def t358:List (cn bn):=⟨358,[],[.v 2,.v 2],[1],fun c a=>Ni a.1 a.2.1⟩::t143
theorem aMo:cG (cT g) t358:=dh di aL4 [] (.two .o (.pc [(.normal,[(.s 4,.p 1)])] .o .o)) (by kernel_rfl) fun c a=>by kernel_rfl
def t252:List (cn bn):=⟨252,[],[.v 2,.v 2],[1],fun c a=>HL a.1 a.2.1⟩::t358
theorem aNX:cG (cT g) t252:=dh di aMo [] .o (by kernel_rfl) fun c a=>by kernel_rfl
def t253:List (cn bn):=⟨253,[],[.v 2,.v 3],[0],fun c a=>strings_IndexByte a.1 a.2.1⟩::t252
theorem aNY:cG (cT g) t253:=aNX.cons (tI rfl fun H ⟨s,c,_⟩ r h=>by
 cases h;exact Dy (spec:=F8) (by kernel_rfl) rfl rfl H)
def t142:List (cn bn):=⟨142,[],[.v 2],[0],fun c a=>A7 a.1⟩::t253
theorem US:cG (cT g) t142:=dh di aNY [(5,2)] (.two .o (.two (.two .o (.fe [(.s 7,.p 0)] [(.exit 0,[]),(.ret,[(.s 2,.c (.int .i64 2))])] .o)) (.two (.pc [(.normal,[(.s 22,.p 1)])] .o .o) .o))) (by kernel_rfl) fun c a=>by kernel_rfl
def t144:List (cn bn):=⟨144,[],[.v 2],[1],fun c a=>DP a.1⟩::t142
theorem UT:cG (cT g) t144:=dh di US [] (.two .o (.pc [(.normal,[(.s 2,.p 1)])] .o .o)) (by kernel_rfl) fun c a=>by kernel_rfl
def t139:List (cn bn):=⟨139,[],[.v 2,.f [3] 1],[0],fun c a=>A8 a.1 a.2.1⟩::t144
theorem aMf:cG (cT g) t139:=dh di UT [] (.two .o (.two .o (.two (.fe [(.s 5,.p 0)] [(.exit 0,[(.s 5,.p 0)])] (.two (.pc [(.normal,[(.s 16,.p 1)])] .o .o) .o)) .o))) (by kernel_rfl) fun c a=>by kernel_rfl
def t251:List (cn bn):=⟨251,[],[.v 3],[1],fun c a=>Ba a.1⟩::t139
theorem UU:cG (cT g) t251:=dh di aMf [] .o (by kernel_rfl) fun c a=>by kernel_rfl
def t137:List (cn bn):=⟨137,[],[.v 2],[0],fun c a=>DS a.1⟩::t251
theorem aMF:cG (cT g) t137:=dh di UU [] (.two .o (.two .o (.two (.fe [(.s 3,.p 0)] [(.exit 0,[(.s 3,.p 0)]),(.ret,[(.s 2,.p 0)])] .o) .o))) (by kernel_rfl) fun c a=>by kernel_rfl
def t24:List (cn bn):=⟨24,[],[.v 2],[0],fun c a=>pU a.1⟩::t137
theorem UW:cG (cT g) t24:=aMF.cons (tI rfl fun H ⟨w,_⟩ r h=>by
 cases h;exact an5 ⟨X5 aM3.hd,X6 UR.hd,X7 Qz.hd,X8 aL4.hd,X9 UT.hd,Ya US.hd,Yb aMf.hd,Yc aMF.hd,Yd UU.hd,by kernel_rfl,by kernel_rfl,by kernel_rfl,by kernel_rfl,⟨Co,by kernel_rfl,by kernel_rfl⟩⟩ w H)
def t62:List (cn bn):=⟨62,[],[.v 2],[0,1],fun c a=>vX a.1⟩::t24
theorem agX:cG (cT g) t62:=UW.cons (tI rfl fun H ⟨w,_⟩ r h=>aNp (by kernel_rfl) (fun H0 a r h=>UW.hd H0 [] () (a,()) [] _ r rfl (.nil H0) ⟨_,rfl,rfl⟩ h) (sp:=Cp) (by kernel_rfl) (fun s hs=>by simp[Cp,hs]) H w r h)
def t25:List (cn bn):=⟨25,[],[.v 10],[6,1,1],fun c a=>zO a.1⟩::t62
theorem aNZ:cG (cT g) t25:=agX.cons (tI rfl fun H ⟨x,_⟩ r h=>asa (by kernel_rfl) (fun H0 a r h=>UW.hd H0 [] () (a,()) [] _ r rfl (.nil H0) ⟨_,rfl,rfl⟩ h) (fun H0 a r h=>agX.hd H0 [] () (a,()) [] _ r rfl (.nil H0) ⟨_,rfl,rfl⟩ h) H x r h)
def t23:List (cn bn):=⟨23,[],[.v 2],[10],fun c a=>zL a.1⟩::t25
theorem aN0:cG (cT g) t23:=aNZ.cons (tI rfl fun H ⟨w,_⟩ r h=>aNK ⟨X5 aM3.hd,X6 UR.hd,X7 Qz.hd,X8 aL4.hd,X9 UT.hd,Ya US.hd,Yb aMf.hd,Yc aMF.hd,Yd UU.hd,by kernel_rfl,by kernel_rfl,by kernel_rfl,by kernel_rfl,⟨Co,by kernel_rfl,by kernel_rfl⟩⟩ (by kernel_rfl) H w r h)
def t39:List (cn bn):=⟨39,[],[.v 10,.v 2],[2],fun c a=>strings_Join a.1 a.2.1⟩::t23
theorem asp:cG (cT g) t39:=aN0.cons (tI rfl fun H ⟨x,s,_⟩ r h=>Dy (spec:=Cq) (by kernel_rfl) (aNN x s) (aNM h) H)
def t38:List (cn bn):=⟨38,[],[.v 0],[2],fun c a=>strconv_Itoa a.1⟩::t39
theorem aLF:cG (cT g) t38:=asp.cons (tI rfl fun H ⟨n,_⟩ r h=>Dy (spec:=Cr) (by kernel_rfl) rfl (aNL h) H)
def t163:List (cn bn):=⟨163,[],[.v 0],[2],fun c a=>vY a.1⟩::t38
theorem aN1:cG (cT g) t163:=aLF.cons (tI rfl fun H ⟨n,_⟩ r h=>aNW (by kernel_rfl) H n r h)
def t22:List (cn bn):=⟨22,[],[.v 6,.v 9],[1],fun c a=>HN a.1 a.2.1⟩::t163
theorem ar5:cG (cT g) t22:=dh di aN1 [] (.two .o (.two (.two .o (.fe [(.s 5,.p 0)] [(.exit 0,[]),(.ret,[(.s 4,.c (.b0 false))])] (.two .o (.two (.pc [(.normal,[(.s 27,.p 1)])] .o .o) .o)))) (.pu [4] .o))) (by kernel_rfl) fun c a=>by kernel_rfl
def t5:List (cn bn):=⟨5,[],[.v 26],[1],fun c a=>HU a.1⟩::t22
theorem et:cG (cT g) t5:=dh di ar5 [] (.two .o (.two (.pc [(.normal,[(.s 56,.p 1)])] .o .o) (.two (.two .o (.fe [(.s 3,.p 0)] [(.exit 0,[]),(.ret,[(.s 2,.c (.b0 false))])] .o)) (.two (.two .o (.fe [(.s 4,.p 0)] [(.exit 2,[]),(.ret,[(.s 2,.c (.b0 false))])] .o)) (.two (.two .o (.fe [(.s 5,.p 0)] [(.exit 4,[]),(.ret,[(.s 2,.c (.b0 false))])] (.two .o (.two (.pc [(.normal,[(.s 111,.p 1)])] .o .o) .o)))) (.two (.two .o (.fe [(.s 6,.p 0)] [(.exit 6,[]),(.ret,[(.s 2,.c (.b0 false))])] (.two .o (.two (.two .o (.two (.pc [(.normal,[(.s 150,.p 1)])] .o .o) (.two .o (.fe [(.s 8,.p 0)] [(.exit 8,[]),(.ret,[(.s 2,.c (.b0 false))])] .o)))) .o)))) .o)))))) (by kernel_rfl) fun c a=>by kernel_rfl
def t352:List (cn bn):=⟨352,[],[.v 27,.v 1],[0],fun c a=>Wt a.1 a.2.1⟩::t5
theorem aMb:cG (cT g) t352:=dh di et [] (.two .o (.two (.two .o (.fe [(.s 8,.p 0)] [(.exit 0,[]),(.ret,[(.s 4,.p 0)])] .o)) .o)) (by kernel_rfl) fun c a=>by kernel_rfl
def t237:List (cn bn):=⟨237,[],[.v 27,.v 1],[1],fun c a=>Nn a.1 a.2.1⟩::t352
theorem aMC:cG (cT g) t237:=dh di aMb [] .o (by kernel_rfl) fun c a=>by kernel_rfl
def t115:List (cn bn):=⟨115,[],[.v 27],[1],fun c a=>Bc a.1⟩::t237
theorem aN2:cG (cT g) t115:=dh di aMC [] .o (by kernel_rfl) fun c a=>by kernel_rfl
def t244:List (cn bn):=⟨244,[],[.v 6,.f [0] 1],[0],fun c a=>Wu a.1 a.2.1⟩::t115
theorem aM1:cG (cT g) t244:=dh di aN2 [] (.two .o (.two (.two .o (.fe [(.s 8,.p 0)] [(.exit 0,[]),(.ret,[(.s 4,.p 0)])] .o)) .o)) (by kernel_rfl) fun c a=>by kernel_rfl
def t127:List (cn bn):=⟨127,[],[.v 6,.f [0] 1],[1],fun c a=>DW a.1 a.2.1⟩::t244
theorem ar0:cG (cT g) t127:=dh di aM1 [] .o (by kernel_rfl) fun c a=>by kernel_rfl
def t118:List (cn bn):=⟨118,[],[.v 0,.v 0,.v 0],[1],fun c a=>HV a.1 a.2.1 a.2.2.1⟩::t127
theorem aN3:cG (cT g) t118:=dh di ar0 [] (.two .o (.pu [6] .o)) (by kernel_rfl) fun c a=>by kernel_rfl
def t238:List (cn bn):=⟨238,[],[.v 0],[1],fun c a=>Np a.1⟩::t118
theorem aMD:cG (cT g) t238:=dh di aN3 [] .o (by kernel_rfl) fun c a=>by kernel_rfl
def t116:List (cn bn):=⟨116,[],[.v 6],[1],fun c a=>HW a.1⟩::t238
theorem atZ:cG (cT g) t116:=dh di aMD [] .o (by kernel_rfl) fun c a=>by kernel_rfl
def t117:List (cn bn):=⟨117,[],[.v 2],[1],fun c a=>yX a.1⟩::t116
theorem aN4:cG (cT g) t117:=dh di atZ [] (.two .o (.pc [(.normal,[(.s 2,.p 1)])] .o .o)) (by kernel_rfl) fun c a=>by kernel_rfl
def t239:List (cn bn):=⟨239,[6],[.v 0],[1],fun c a=>Nq c a.1⟩::t117
theorem aML:cG (cT g) t239:=dh di aN4 [] (.two .o (.pu [3] .o)) (by kernel_rfl) fun c a=>by kernel_rfl
def t119:List (cn bn):=⟨119,[],[.v 6,.v 6],[1],fun c a=>HX a.1 a.2.1⟩::t239
theorem aN5:cG (cT g) t119:=dh di aML [] (.two .o (.pc [(.normal,[(.s 4,.p 1)])] .o .o)) (by kernel_rfl) fun c a=>by kernel_rfl
def t120:List (cn bn):=⟨120,[],[.v 8],[1],fun c a=>HY a.1⟩::t119
theorem aN6:cG (cT g) t120:=dh di aN5 [] (.two .o (.pc [(.normal,[]),(.ret,[(.s 2,.p 1)])] (.two .o (.pc [(.normal,[(.s 5,.p 1)])] .o (.two (.pu [2] .o) .o))) .o)) (by kernel_rfl) fun c a=>by kernel_rfl
def t121:List (cn bn):=⟨121,[],[.v 8],[1],fun c a=>Bd a.1⟩::t120
theorem aN7:cG (cT g) t121:=dh di aN6 [] (.two .o (.pu [2] .o)) (by kernel_rfl) fun c a=>by kernel_rfl
def t122:List (cn bn):=⟨122,[],[.v 6,.v 6],[0],fun c a=>tu a.1 a.2.1⟩::t121
theorem aLS:cG (cT g) t122:=dh di aN7 [] (.two .o (.two .o (.two (.two .o (.fe [(.s 5,.p 0),(.s 10,.p 0)] [(.exit 0,[(.s 5,.p 0)])] .o)) .o))) (by kernel_rfl) fun c a=>by kernel_rfl
def t52:List (cn bn):=⟨52,[],[.v 6,.v 9],[1],fun c a=>Bg a.1 a.2.1⟩::t122
theorem aN8:cG (cT g) t52:=dh di aLS [(19,1),(22,100),(46,1)] (.two .o (.two .o (.two .o (.two .o (.two (.two .o (.fe [(.s 25,.p 0),(.m 2 0,.p 0),(.m 1 0,.p 0),(.s 5,.r 100),(.m 0 0,.d)] [(.exit 0,[(.m 2 0,.p 0),(.m 1 0,.p 0)]),(.ret,[(.s 4,.c (.b0 false))])] .o)) (.pu [4] .o)))))) (by kernel_rfl) fun c a=>by kernel_rfl
def t53:List (cn bn):=⟨53,[],[.v 10],[1],fun c a=>DY a.1⟩::t52
theorem aN9:cG (cT g) t53:=dh di aN8 [(6,100)] (.two .o (.two .o (.two (.two .o (.fe [(.s 9,.p 0),(.s 3,.r 100),(.m 0 0,.d)] [(.exit 0,[]),(.ret,[(.s 2,.c (.b0 false))])] (.two .o (.two .o (.two (.two .o (.two (.pc [(.normal,[(.s 20,.p 1)])] .o .o) .o)) .o))))) .o))) (by kernel_rfl) fun c a=>by kernel_rfl
def t123:List (cn bn):=⟨123,[],[.v 28,.v 0],[28],fun c a=>DJ a.1 a.2.1⟩::t53
theorem arF:cG (cT g) t123:=aN9.cons (tI rfl fun H ⟨x,n,_⟩ r h=>aou ⟨by kernel_rfl,by kernel_rfl,by kernel_rfl⟩ H x n r h)
def t54:List (cn bn):=⟨54,[],[.v 6,.v 9,.v 1],[28],fun c a=>D0 a.1 a.2.1 a.2.2.1⟩::t123
theorem aOa:cG (cT g) t54:=dh di arF [(27,7)] (.two .o (.two .o (.two .o (.two (.two .o (.fe [(.s 16,.p 0),(.s 7,.r 28)] [(.exit 0,[(.s 7,.r 28)])] .o)) .o)))) (by kernel_rfl) fun c a=>by kernel_rfl
def t37:List (cn bn):=⟨37,[],[.v 0,.v 0],[1],fun c a=>kg a.1 a.2.1⟩::t54
theorem aOb:cG (cT g) t37:=dh di aOa [] (.two .o (.pu [4] .o)) (by kernel_rfl) fun c a=>by kernel_rfl
def t129:List (cn bn):=⟨129,[],[.v 0,.v 0],[1],fun c a=>y1 a.1 a.2.1⟩::t37
theorem ar3:cG (cT g) t129:=dh di aOb [] (.two .o (.pu [4] .o)) (by kernel_rfl) fun c a=>by kernel_rfl
def t124:List (cn bn):=⟨124,[],[.v 29,.v 13],[1],fun c a=>D2 a.1 a.2.1⟩::t129
theorem arK:cG (cT g) t124:=dh di ar3 [] (.two .o (.two .o (.two (.two .o (.fe [(.s 5,.p 0),(.s 11,.p 0)] [(.exit 0,[]),(.ret,[(.s 4,.c (.b0 false))])] (.two .o (.two .o (.two (.two .o (.two (.pc [(.normal,[(.s 37,.p 1)])] .o .o) .o)) .o))))) .o))) (by kernel_rfl) fun c a=>by kernel_rfl
def t219:List (cn bn):=⟨219,[],[.v 9,.f [8] 1],[0],fun c a=>Wv a.1 a.2.1⟩::t124
theorem asd:cG (cT g) t219:=dh di arK [] (.two .o (.two (.two .o (.fe [(.s 8,.p 0)] [(.exit 0,[]),(.ret,[(.s 4,.p 0)])] .o)) .o)) (by kernel_rfl) fun c a=>by kernel_rfl
def t241:List (cn bn):=⟨241,[],[.v 9,.f [8] 1],[1],fun c a=>Nu a.1 a.2.1⟩::t219
theorem aMT:cG (cT g) t241:=dh di asd [] .o (by kernel_rfl) fun c a=>by kernel_rfl
def t242:List (cn bn):=⟨242,[14,29],[.v 8],[1],fun c a=>H5 c.1 c.2 a.1⟩::t241
theorem aME:cG (cT g) t242:=dh di aMT [] (.two .o (.pc [(.normal,[(.s 4,.p 1)])] .o .o)) (by kernel_rfl) fun c a=>by kernel_rfl
def t125:List (cn bn):=⟨125,[],[.v 29,.v 14],[1],fun c a=>H6 a.1 a.2.1⟩::t242
theorem arN:cG (cT g) t125:=dh di aME [] (.two .o (.pc [(.normal,[(.s 4,.p 1)])] .o .o)) (by kernel_rfl) fun c a=>by kernel_rfl
def t243:List (cn bn):=⟨243,[],[.v 12,.v 12],[1],fun c a=>Bi a.1 a.2.1⟩::t125
theorem aMX:cG (cT g) t243:=dh di arN [] (.two .o (.two .o (.two (.two .o (.fe [(.s 13,.p 0)] [(.exit 0,[]),(.ret,[(.s 4,.c (.b0 false))])] .o)) .o))) (by kernel_rfl) fun c a=>by kernel_rfl
def t126:List (cn bn):=⟨126,[],[.v 13,.v 0,.v 0,.v 0],[1],fun c a=>H8 a.1 a.2.1 a.2.2.1 a.2.2.2.1⟩::t243
theorem aL3:cG (cT g) t126:=dh di aMX [(14,11)] (.two .o (.pc [(.normal,[(.s 8,.p 1)])] .o .o)) (by kernel_rfl) fun c a=>by kernel_rfl
def t55:List (cn bn):=⟨55,[],[.v 29],[1],fun c a=>H9 a.1⟩::t126
theorem aOc:cG (cT g) t55:=dh di aL3 [] (.two .o (.two (.pu [23] .o) (.two (.two .o (.fe [(.s 28,.p 0)] [(.exit 0,[]),(.ret,[(.s 2,.c (.b0 false))])] (.two .o (.two .o (.two (.two .o (.pc [(.normal,[]),(.ret,[(.s 2,.c (.b0 false))])] (.two .o (.two .o (.two .o (.two (.pc [(.normal,[(.s 60,.p 1)])] .o .o) (.pc [(.normal,[(.s 61,.p 1)])] .o .o))))) (.two .o (.two (.two .o (.pc [(.normal,[(.s 6,.p 0),(.s 7,.p 0)])] .o (.pc [(.normal,[(.s 103,.p 1)])] .o .o))) .o)))) .o))))) .o))) (by kernel_rfl) fun c a=>by kernel_rfl
def t128:List (cn bn):=⟨128,[29],[.v 0],[1],fun c a=>Ia c a.1⟩::t55
theorem ar1:cG (cT g) t128:=dh di aOc [] (.two .o (.pu [3] .o)) (by kernel_rfl) fun c a=>by kernel_rfl
def t56:List (cn bn):=⟨56,[],[.v 29],[1],fun c a=>Ib a.1⟩::t128
theorem aOd:cG (cT g) t56:=dh di ar1 [(17,2)] (.two .o (.two .o (.two (.two .o (.fe [(.s 10,.p 0),(.s 3,.r 10)] [(.exit 0,[(.s 3,.r 10)]),(.ret,[(.s 2,.c (.b0 false))])] (.two .o (.two .o (.two (.two .o (.two .o (.pc [(.normal,[(.s 28,.p 1)])] .o .o))) .o))))) (.pc [(.normal,[(.s 2,.p 1)])] .o .o)))) (by kernel_rfl) fun c a=>by kernel_rfl
def t236:List (cn bn):=⟨236,[],[.v 0],[1],fun c a=>Ic a.1⟩::t56
theorem aOe:cG (cT g) t236:=dh di aOd [] .o (by kernel_rfl) fun c a=>by kernel_rfl
def t114:List (cn bn):=⟨114,[],[.v 0,.v 0],[0],fun c a=>Ie a.1 a.2.1⟩::t236
theorem aOf:cG (cT g) t114:=dh di aOe [] .o (by kernel_rfl) fun c a=>by kernel_rfl
def t130:List (cn bn):=⟨130,[],[.v 6,.v 6],[0],fun c a=>D7 a.1 a.2.1⟩::t114
theorem arH:cG (cT g) t130:=dh di aOf [] (.two .o (.two (.two .o (.fe [(.s 11,.p 0)] [(.exit 0,[]),(.ret,[(.s 4,.p 0)])] .o)) .o)) (by kernel_rfl) fun c a=>by kernel_rfl
def t76:List (cn bn):=⟨76,[],[.v 6,.v 9,.v 1,.v 0],[0,6,1],fun c a=>Ea a.1 a.2.1 a.2.2.1 a.2.2.2.1⟩::t130
theorem aM7:cG (cT g) t76:=dh di arH [(55,0)] (.two .o (.two (.pc [(.normal,[(.s 24,.p 1)])] .o .o) (.two (.two .o (.fe [(.s 27,.p 0)] [(.exit 0,[]),(.ret,[(.s 8,.p 0),(.s 9,.r 6),(.s 10,.c (.b0 true))])] (.two .o (.two .o (.two (.two .o (.two .o (.two (.pc [(.normal,[(.s 51,.p 1)])] .o .o) (.two .o (.two (.two .o (.fe [(.s 13,.p 0),(.s 15,.p 0),(.s 14,.r 6),(.m 1 0,.d)] [(.exit 2,[(.s 14,.r 6),(.m 1 0,.d)])] .o)) .o))))) .o))))) .o))) (by kernel_rfl) fun c a=>by kernel_rfl
def t245:List (cn bn):=⟨245,[],[.v 29,.v 21],[1],fun c a=>Ij a.1 a.2.1⟩::t76
theorem aM2:cG (cT g) t245:=dh di aM7 [] (.two .o (.two .o (.two .o (.two .o (.two .o (.pc [(.normal,[(.s 51,.p 1)])] .o (.two (.pu [4] .o) (.pu [4] .o)))))))) (by kernel_rfl) fun c a=>by kernel_rfl
def t355:List (cn bn):=⟨355,[],[.v 20,.f [13] 1],[0],fun c a=>Wy a.1 a.2.1⟩::t245
theorem aL9:cG (cT g) t355:=dh di aM2 [] (.two .o (.two (.two .o (.fe [(.s 8,.p 0)] [(.exit 0,[]),(.ret,[(.s 4,.p 0)])] .o)) .o)) (by kernel_rfl) fun c a=>by kernel_rfl
def t246:List (cn bn):=⟨246,[],[.v 20,.f [13] 1],[1],fun c a=>NC a.1 a.2.1⟩::t355
theorem aMg:cG (cT g) t246:=dh di aL9 [] .o (by kernel_rfl) fun c a=>by kernel_rfl
def t247:List (cn bn):=⟨247,[29],[.v 13],[1],fun c a=>Ik c a.1⟩::t246
theorem aOg:cG (cT g) t247:=dh di aMg [] .o (by kernel_rfl) fun c a=>by kernel_rfl
def t131:List (cn bn):=⟨131,[],[.v 29,.v 23],[1],fun c a=>Il a.1 a.2.1⟩::t247
theorem aOh:cG (cT g) t131:=dh di aOg [] (.two .o (.two .o (.two (.two .o (.fe [(.s 5,.p 0),(.s 13,.p 0)] [(.exit 0,[]),(.ret,[(.s 4,.c (.b0 false))])] (.two .o (.two .o (.two (.two .o (.two (.pc [(.normal,[(.s 39,.p 1)])] .o .o) .o)) .o))))) (.two .o (.two (.two .o (.fe [(.s 5,.p 0),(.s 46,.p 0)] [(.exit 2,[]),(.ret,[(.s 4,.c (.b0 false))])] (.two .o (.two .o (.two (.two .o (.two (.pc [(.normal,[(.s 59,.p 1)])] .o .o) .o)) .o))))) (.pc [(.normal,[(.s 4,.p 1)])] .o .o)))))) (by kernel_rfl) fun c a=>by kernel_rfl
def t57:List (cn bn):=⟨57,[],[.v 29],[1],fun c a=>Iq a.1⟩::t131
theorem aOi:cG (cT g) t57:=dh di aOh [] (.two .o (.two .o (.two (.two .o (.fe [(.s 18,.p 0)] [(.exit 0,[]),(.ret,[(.s 2,.c (.b0 false))])] (.two .o (.two .o (.two (.two .o (.two (.pc [(.normal,[(.s 45,.p 1)])] .o .o) (.two (.two .o (.fe [(.s 55,.p 0)] [(.exit 2,[]),(.ret,[(.s 2,.c (.b0 false))])] (.two .o (.two .o (.two (.two .o (.two .o (.pc [(.normal,[(.s 86,.p 1)])] .o .o))) .o))))) (.pc [(.normal,[]),(.ret,[(.s 2,.c (.b0 false))])] (.two .o (.two (.two .o (.pc [(.normal,[(.s 116,.p 1)])] .o .o)) .o)) .o)))) .o))))) .o))) (by kernel_rfl) fun c a=>by kernel_rfl
def t58:List (cn bn):=⟨58,[],[.v 29],[1],fun c a=>Wq a.1⟩::t57
theorem aOj:cG (cT g) t58:=aOi.cons (tI rfl fun H ⟨j,_⟩ r h=>by
 cases h;exact Dy (spec:=BZ) (by kernel_rfl) (by simp[Jm,bW,bs,WL]) (aoX j) H)
def t19:List (cn bn):=⟨19,[],[.v 26],[1],fun c a=>ou a.1⟩::t58
theorem aOk:cG (cT g) t19:=dh di aOj [] (.two .o (.two (.pc [(.normal,[(.s 21,.p 1)])] .o .o) (.two .lt (.pc [(.normal,[(.s 2,.p 1)])] .o .o)))) (by kernel_rfl) fun c a=>by kernel_rfl
def t26:List (cn bn):=⟨26,[],[.v 17,.f [16] 1],[0],fun c a=>P9 a.1 a.2.1⟩::t19
theorem aOl:cG (cT g) t26:=dh di aOk [] (.two .o (.two (.two .o (.fe [(.s 8,.p 0)] [(.exit 0,[]),(.ret,[(.s 4,.p 0)])] .o)) .o)) (by kernel_rfl) fun c a=>by kernel_rfl
def t27:List (cn bn):=⟨27,[10],[.v 16],[1],fun c a=>EX c a.1⟩::t26
theorem arC:cG (cT g) t27:=dh di aOl [] .o (by kernel_rfl) fun c a=>by kernel_rfl
def t28:List (cn bn):=⟨28,[],[.v 25,.f [24] 1],[0],fun c a=>Qd a.1 a.2.1⟩::t27
theorem aOm:cG (cT g) t28:=dh di arC [] (.two .o (.two (.two .o (.fe [(.s 8,.p 0)] [(.exit 0,[]),(.ret,[(.s 4,.p 0)])] .o)) .o)) (by kernel_rfl) fun c a=>by kernel_rfl
def t30:List (cn bn):=⟨30,[],[.v 6,.v 6],[1],fun c a=>Qf a.1 a.2.1⟩::t28
theorem aOn:cG (cT g) t30:=dh di aOm [] (.two .o (.two .o (.two (.two .o (.fe [(.s 13,.p 0)] [(.exit 0,[]),(.ret,[(.s 4,.c (.b0 false))])] .o)) .o))) (by kernel_rfl) fun c a=>by kernel_rfl
def t29:List (cn bn):=⟨29,[0,6],[.v 24],[1],fun c a=>EY c.1 c.2 a.1⟩::t30
theorem aOo:cG (cT g) t29:=dh di aOn [] (.two .o (.pc [(.normal,[(.s 4,.p 1)])] .o .o)) (by kernel_rfl) fun c a=>by kernel_rfl
def t6:List (cn bn):=⟨6,[],[.v 26,.v 2],[0,0],fun c a=>Qg a.1 a.2.1⟩::t29
theorem gz:cG (cT g) t6:=dh di aOo [] (.two .o (.two .o (.two .o (.two (.pc [(.normal,[(.s 41,.p 1)])] .o .o) (.two .o (.two .o (.two .o (.two .o (.two .o (.two (.pu [69] .o) .o)))))))))) (by kernel_rfl) fun c a=>by kernel_rfl
def t146:List (cn bn):=⟨146,[],[.v 6],[1],fun c a=>aws a.1⟩::t6
theorem aOp:cG (cT g) t146:=dh di gz [] (.two .o (.two (.two .o (.fe [(.s 3,.p 0)] [(.exit 0,[]),(.ret,[(.s 2,.c (.b0 false))])] (.two .o (.two (.pc [(.normal,[(.s 21,.p 1)])] .o .o) .o)))) .o)) (by kernel_rfl) fun c a=>by kernel_rfl
def t147:List (cn bn):=⟨147,[],[.v 6,.v 6],[0],fun c a=>avk a.1 a.2.1⟩::t146
theorem aOq:cG (cT g) t147:=dh di aOp [] (.two .o (.two (.pc [(.normal,[(.s 14,.p 1)])] .o .o) (.two .o (.two (.two .o (.fe [(.s 5,.p 0),(.s 6,.p 0)] [(.exit 0,[(.s 5,.p 0)]),(.ret,[(.s 4,.c (.int .i64 0))])] (.two .o (.two (.two (.pc [(.normal,[(.s 34,.p 1)])] .o .o) .o) .o)))) .o)))) (by kernel_rfl) fun c a=>by kernel_rfl
def t365:List (cn bn):=⟨365,[],[.v 3],[1],fun c a=>awv a.1⟩::t147
theorem aMI:cG (cT g) t365:=dh di aOq [] (.two .o (.pu [2] .o)) (by kernel_rfl) fun c a=>by kernel_rfl
def t257:List (cn bn):=⟨257,[],[.v 2,.v 0],[0],fun c a=>awx a.1 a.2.1⟩::t365
theorem aOr:cG (cT g) t257:=dh di aMI [] (.two .o (.two (.fe [(.s 1,.p 0)] [(.exit 0,[(.s 1,.p 0)])] (.two (.pc [(.normal,[(.s 20,.p 1)])] .o .o) (.two .o (.two (.fe [(.s 1,.p 0)] [(.exit 2,[(.s 1,.p 0)])] (.two (.pc [(.normal,[(.s 34,.p 1)])] .o .o) .o)) .o)))) .o)) (by kernel_rfl) fun c a=>by kernel_rfl
def t150:List (cn bn):=⟨150,[],[.v 10,.v 2],[1],fun c a=>awy a.1 a.2.1⟩::t257
theorem aOs:cG (cT g) t150:=dh di aOr [] (.two .o (.two (.two .o (.fe [(.s 5,.p 0)] [(.exit 0,[]),(.ret,[(.s 4,.c (.b0 true))])] .o)) .o)) (by kernel_rfl) fun c a=>by kernel_rfl
def t366:List (cn bn):=⟨366,[],[.v 3],[1],fun c a=>avR a.1⟩::t150
theorem aMM:cG (cT g) t366:=dh di aOs [] (.two .o (.pu [2] .o)) (by kernel_rfl) fun c a=>by kernel_rfl
def t367:List (cn bn):=⟨367,[],[.v 3],[1],fun c a=>avv a.1⟩::t366
theorem aMQ:cG (cT g) t367:=dh di aMM [] (.two .o (.pu [2] .o)) (by kernel_rfl) fun c a=>by kernel_rfl
def t368:List (cn bn):=⟨368,[],[],[10],fun c a=>axA⟩::t367
theorem aMS:cG (cT g) t368:=dh di aMQ [(1,2)] .o (by kernel_rfl) fun c a=>by kernel_rfl
def t427:List (cn bn):=⟨427,[],[],[10],fun c a=>axB⟩::t368
theorem aOt:cG (cT g) t427:=dh di aMS [(1,2)] .o (by kernel_rfl) fun c a=>by kernel_rfl
def t369:List (cn bn):=⟨369,[],[.v 2,.v 0],[0],fun c a=>awA a.1 a.2.1⟩::t427
theorem aM0:cG (cT g) t369:=dh di aOt [] (.two .o (.two .o (.two (.two .o (.fe [(.s 6,.p 0)] [(.exit 0,[]),(.ret,[(.s 4,.p 0)])] (.two .o (.two (.two .o (.pc [(.normal,[(.s 38,.p 1)])] .o .o)) .o)))) .o))) (by kernel_rfl) fun c a=>by kernel_rfl
def t258:List (cn bn):=⟨258,[],[.v 2,.v 0],[0,0],fun c a=>axE a.1 a.2.1⟩::t369
theorem aOu:cG (cT g) t258:=dh di aM0 [] (.two .o (.two .o (.two (.two .o (.two (.two (.fe [(.s 6,.p 0)] [(.exit 0,[(.s 6,.p 0)])] (.two (.pc [(.normal,[(.s 34,.p 1)])] .o .o) .o)) .o) .o)) (.two (.two .o (.two (.two (.fe [(.s 6,.p 0)] [(.exit 2,[(.s 6,.p 0)])] (.two (.pc [(.normal,[(.s 58,.p 1)])] .o .o) .o)) .o) .o)) (.two .o (.two (.fe [(.s 6,.p 0)] [(.exit 4,[(.s 6,.p 0)])] (.two (.pc [(.normal,[(.s 106,.p 1)])] .o .o) .o)) .o)))))) (by kernel_rfl) fun c a=>by kernel_rfl
def t159:List (cn bn):=⟨159,[],[.v 2],[31,0],fun c a=>ayQ a.1⟩::t258
theorem aOv:cG (cT g) t159:=dh di aOu [(12,30),(34,30),(44,30)] (.two .o (.two .o (.two .o (.two .o (.two (.fe [(.s 5,.p 0),(.s 4,.r 31)] [(.exit 0,[(.s 5,.p 0),(.s 4,.r 31)])] .o) .o))))) (by kernel_rfl) fun c a=>by kernel_rfl
def t157:List (cn bn):=⟨157,[],[.v 2],[0],fun c a=>axF a.1⟩::t159
theorem aOw:cG (cT g) t157:=dh di aOv [] (.two .o (.two .o (.two (.pc [(.normal,[(.s 32,.p 1)])] .o .o) .o))) (by kernel_rfl) fun c a=>by kernel_rfl
def t148:List (cn bn):=⟨148,[],[.v 2],[1],fun c a=>ajb a.1⟩::t157
theorem aOx:cG (cT g) t148:=dh di aOw [] (.two .o (.pc [(.normal,[(.s 2,.p 1)])] .o .o)) (by kernel_rfl) fun c a=>by kernel_rfl
def t149:List (cn bn):=⟨149,[],[.v 0],[1],fun c a=>avx a.1⟩::t148
theorem aOy:cG (cT g) t149:=dh di aOx [] (.two .o (.pu [2] .o)) (by kernel_rfl) fun c a=>by kernel_rfl
def t63:List (cn bn):=⟨63,[],[.v 6,.v 9],[1],fun c a=>avU a.1 a.2.1⟩::t149
theorem ar4:cG (cT g) t63:=dh di aOy [] (.two .o (.two (.pc [(.normal,[(.s 23,.p 1)])] .o .o) (.two .o (.two (.two .o (.fe [(.s 5,.p 0),(.s 6,.p 0),(.s 7,.p 0)] [(.exit 0,[(.s 5,.p 0),(.s 6,.p 0)]),(.ret,[(.s 4,.c (.b0 false))])] (.two .o (.two (.two .o (.two (.two .o (.fe [(.s 9,.p 0)] [(.exit 2,[]),(.ret,[(.s 4,.c (.b0 false))])] .o)) (.two .o (.two (.pc [(.normal,[(.s 68,.p 1)])] .o .o) (.two (.pu [87] .o) (.two (.pu [112] .o) .o)))))) .o)))) (.pu [4] .o))))) (by kernel_rfl) fun c a=>by kernel_rfl
def t64:List (cn bn):=⟨64,[],[.v 10],[1],fun c a=>awE a.1⟩::t63
theorem arI:cG (cT g) t64:=dh di ar4 [] (.two .o (.two (.two .o (.fe [(.s 3,.p 0)] [(.exit 0,[]),(.ret,[(.s 2,.c (.b0 false))])] (.two .o (.two (.pc [(.normal,[(.s 25,.p 1)])] .o .o) .o)))) .o)) (by kernel_rfl) fun c a=>by kernel_rfl
def t70:List (cn bn):=⟨70,[],[.v 6,.v 9,.v 1],[28],fun c a=>axH a.1 a.2.1 a.2.2.1⟩::t64
theorem aMk:cG (cT g) t70:=dh di arI [(10,7),(49,7)] (.two .o (.two .o (.two .o (.two (.two .o (.fe [(.s 8,.p 0),(.s 7,.r 28)] [(.exit 0,[(.s 7,.r 28)])] (.two .o (.two (.two .o (.fe [(.s 9,.p 0),(.s 7,.r 28),(.m 0 0,.d)] [(.exit 2,[(.s 7,.r 28),(.m 0 0,.d)])] (.two (.pc [(.normal,[(.s 40,.p 1)])] .o .o) .o))) .o)))) .o)))) (by kernel_rfl) fun c a=>by kernel_rfl
def t35:List (cn bn):=⟨35,[],[.v 26],[28],fun c a=>avz a.1⟩::t70
theorem aOz:cG (cT g) t35:=dh di aMk [] .o (by kernel_rfl) fun c a=>by kernel_rfl
def t249:List (cn bn):=⟨249,[],[.v 12,.v 12],[1],fun c a=>ayR a.1 a.2.1⟩::t35
theorem aOA:cG (cT g) t249:=dh di aOz [] (.two .o (.two .o (.two (.two .o (.fe [(.s 5,.p 0)] [(.exit 0,[]),(.ret,[(.s 4,.c (.b0 false))])] .o)) .o))) (by kernel_rfl) fun c a=>by kernel_rfl
def t134:List (cn bn):=⟨134,[],[.v 13,.v 13],[1],fun c a=>awF a.1 a.2.1⟩::t249
theorem aMj:cG (cT g) t134:=dh di aOA [] (.two .o (.pc [(.normal,[(.s 4,.p 1)])] .o .o)) (by kernel_rfl) fun c a=>by kernel_rfl
def t153:List (cn bn):=⟨153,[],[.v 0,.v 0],[1],fun c a=>au9 a.1 a.2.1⟩::t134
theorem aOB:cG (cT g) t153:=dh di aMj [] (.two .o (.pu [4] .o)) (by kernel_rfl) fun c a=>by kernel_rfl
def t151:List (cn bn):=⟨151,[],[.v 13,.v 0],[1],fun c a=>awH a.1 a.2.1⟩::t153
theorem aOC:cG (cT g) t151:=dh di aOB [] (.two .o (.two (.two .o (.fe [(.s 5,.p 0)] [(.exit 0,[]),(.ret,[(.s 4,.c (.b0 false))])] (.two .o (.two (.two .o (.pc [(.normal,[(.s 54,.p 1)])] .o .o)) .o)))) .o)) (by kernel_rfl) fun c a=>by kernel_rfl
def t152:List (cn bn):=⟨152,[],[.v 26,.v 14],[1],fun c a=>axJ a.1 a.2.1⟩::t151
theorem aOD:cG (cT g) t152:=dh di aOC [] (.two .o (.two (.pu [17] .o) (.two (.two .o (.fe [(.s 5,.p 0)] [(.exit 0,[]),(.ret,[(.s 4,.c (.b0 true))])] (.two .o (.two (.two .o (.pc [(.normal,[(.s 69,.p 1)])] .o .o)) .o)))) .o))) (by kernel_rfl) fun c a=>by kernel_rfl
def t65:List (cn bn):=⟨65,[],[.v 26],[1],fun c a=>axK a.1⟩::t152
theorem aOE:cG (cT g) t65:=dh di aOD [(33,11),(43,11)] (.two .o (.two .o (.two (.pu [24] .o) (.two (.two .o (.fe [(.s 4,.p 0)] [(.exit 0,[]),(.ret,[(.s 2,.c (.b0 false))])] (.two .o (.two (.two .o (.two .o (.pc [(.normal,[(.s 72,.p 1)])] .o .o))) .o)))) (.two (.two .o (.fe [(.s 7,.p 0)] [(.exit 2,[]),(.ret,[(.s 2,.c (.b0 false))])] (.two .o (.two (.two .o (.two (.pu [95] .o) (.pc [(.normal,[(.s 9,.p 1)])] .o (.pc [(.normal,[(.s 135,.p 1)])] .o .o)))) .o)))) .o))))) (by kernel_rfl) fun c a=>by kernel_rfl
def t154:List (cn bn):=⟨154,[],[.v 6,.v 6],[1],fun c a=>awL a.1 a.2.1⟩::t65
theorem aOF:cG (cT g) t154:=dh di aOE [] (.two .o (.two (.two .o (.fe [(.s 5,.p 0)] [(.exit 0,[]),(.ret,[(.s 4,.p 1)])] (.two (.pu [15] .o) .o))) .o)) (by kernel_rfl) fun c a=>by kernel_rfl
def t164:List (cn bn):=⟨164,[],[.v 6,.v 6,.v 0],[6],fun c a=>awM a.1 a.2.1 a.2.2.1⟩::t154
theorem aOG:cG (cT g) t164:=dh di aOF [(11,0)] (.two .o (.two .o (.two (.two .o (.fe [(.s 2,.p 0),(.s 8,.p 0),(.s 7,.r 6),(.m 0 0,.d)] [(.exit 0,[(.s 7,.r 6),(.m 0 0,.d)])] .o)) .o))) (by kernel_rfl) fun c a=>by kernel_rfl
def t77:List (cn bn):=⟨77,[],[.v 6,.v 9,.v 1,.v 0],[0,6,1],fun c a=>axL a.1 a.2.1 a.2.2.1 a.2.2.2.1⟩::t164
theorem QA:cG (cT g) t77:=dh di aOG [] (.two .o (.two .o (.two (.two .o (.fe [(.s 11,.p 0)] [(.exit 0,[]),(.ret,[(.s 8,.p 0),(.s 9,.p 6),(.s 10,.c (.b0 true))])] (.two .o (.two (.two .o (.pc [(.normal,[(.s 56,.p 1)])] .o .o)) .o)))) .o))) (by kernel_rfl) fun c a=>by kernel_rfl
def t256:List (cn bn):=⟨256,[],[.v 0],[1],fun c a=>axM a.1⟩::t77
theorem aOH:cG (cT g) t256:=dh di QA [] (.two .o (.pu [2] .o)) (by kernel_rfl) fun c a=>by kernel_rfl
def t155:List (cn bn):=⟨155,[],[.v 26,.v 23],[1],fun c a=>axP a.1 a.2.1⟩::t256
theorem aOI:cG (cT g) t155:=dh di aOH [] (.two .o (.two .o (.two (.two .o (.fe [(.s 6,.p 0)] [(.exit 0,[]),(.ret,[(.s 4,.c (.b0 false))])] (.two .o (.two (.two .o (.pc [(.normal,[(.s 65,.p 1)])] .o .o)) .o)))) (.two (.two .o (.fe [(.s 8,.p 0)] [(.exit 2,[]),(.ret,[(.s 4,.c (.b0 false))])] .o)) (.two (.two .o (.fe [(.s 9,.p 0)] [(.exit 4,[]),(.ret,[(.s 4,.c (.b0 false))])] (.two .o (.two (.two .o (.two .o (.two (.pc [(.normal,[(.s 121,.p 1)])] .o .o) (.two .o (.two (.pc [(.normal,[(.s 144,.p 1)])] .o .o) (.pc [(.normal,[(.s 169,.p 1)])] .o .o)))))) .o)))) (.pu [4] .o)))))) (by kernel_rfl) fun c a=>by kernel_rfl
def t66:List (cn bn):=⟨66,[],[.v 26],[1],fun c a=>axS a.1⟩::t155
theorem aOJ:cG (cT g) t66:=dh di aOI [(12,2),(28,2)] (.two .o (.two .o (.two (.two .o (.fe [(.s 4,.p 0),(.s 3,.r 10)] [(.exit 0,[(.s 3,.r 10)]),(.ret,[(.s 2,.c (.b0 false))])] (.two .o (.two (.two .o (.two .o (.two (.two .o (.fe [(.s 6,.p 0)] [(.exit 2,[]),(.ret,[(.s 2,.c (.b0 false))])] (.two .o (.two (.pc [(.normal,[(.s 53,.p 1)])] .o .o) .o)))) .o))) .o)))) (.two (.pc [(.normal,[(.s 72,.p 1)])] .o .o) (.two (.two .o (.fe [(.s 7,.p 0)] [(.exit 4,[]),(.ret,[(.s 2,.c (.b0 false))])] (.two .o (.two (.two .o (.two (.pc [(.normal,[(.s 109,.p 1)])] .o .o) (.two (.two .o (.fe [(.s 9,.p 0)] [(.exit 6,[]),(.ret,[(.s 2,.c (.b0 false))])] (.two .o (.two (.two .o (.pc [(.normal,[(.s 162,.p 1)])] .o .o)) .o)))) (.pc [(.normal,[]),(.ret,[(.s 2,.c (.b0 false))])] (.two .o (.two (.two .o (.pc [(.normal,[(.s 190,.p 1)])] .o .o)) .o)) .o)))) .o)))) .o))))) (by kernel_rfl) fun c a=>by kernel_rfl
def t156:List (cn bn):=⟨156,[],[.v 26,.v 0,.v 0,.v 0],[1],fun c a=>axT a.1 a.2.1 a.2.2.1 a.2.2.2.1⟩::t66
theorem aOK:cG (cT g) t156:=aDU di aOJ (X:=Model × Int × Int × Int) (fun g p=>auQ (fun c6 cb dR gR=>g (c6,cb,dR,gR)) p.1 p.2.1 p.2.2.1 p.2.2.2) (fun _ a=>(a.1,a.2.1,a.2.2.1,a.2.2.2.1)) (fun _ _=>rfl) [] (.two .o (.two .o (.two (.two .o (.fe [(.s 9,.p 0)] [(.exit 0,[]),(.ret,[(.s 8,.c (.b0 true))])] (.two (.pu [21] .o) (.two (.pc [(.normal,[(.s 44,.p 1)])] .o .o) .o)))) .o))) (by kernel_rfl) fun g c a=>by kernel_rfl
def t67:List (cn bn):=⟨67,[],[.v 26],[1],fun c a=>axW a.1⟩::t156
theorem aOL:cG (cT g) t67:=dh di aOK [] (.two .o (.two .o (.two (.two .o (.fe [(.s 3,.p 0)] [(.exit 0,[]),(.ret,[(.s 2,.c (.b0 false))])] (.two .o (.two (.two .o (.two (.pu [54] .o) (.two .lt (.pc [(.normal,[(.s 106,.p 1)])] .o .o)))) .o)))) (.two (.two .o (.fe [(.s 7,.p 0)] [(.exit 2,[]),(.ret,[(.s 2,.c (.b0 false))])] .o)) .o)))) (by kernel_rfl) fun c a=>by kernel_rfl
def t31:List (cn bn):=⟨31,[],[.v 26],[1],fun c a=>avV a.1⟩::t67
theorem aOM:cG (cT g) t31:=dh di aOL [] (.two .o (.two (.pc [(.normal,[(.s 20,.p 1)])] .o .o) (.pc [(.normal,[(.s 2,.p 1)])] .o .o))) (by kernel_rfl) fun c a=>by kernel_rfl
def t158:List (cn bn):=⟨158,[],[.v 2],[0,1],fun c a=>vl a.1⟩::t31
theorem aON:cG (cT g) t158:=dh di aOM [] (.two .o (.two (.pc [(.normal,[(.s 13,.p 1)])] .o .o) (.two .o (.two (.two .o (.fe [(.s 4,.p 0),(.s 5,.p 0)] [(.exit 0,[(.s 4,.p 0)])] .o)) .o)))) (by kernel_rfl) fun c a=>by kernel_rfl
def t68:List (cn bn):=⟨68,[],[.v 10],[2,6,1],fun c a=>AY a.1⟩::t158
theorem asg:cG (cT g) t68:=dh di aON [(26,0),(82,0)] (.two .o (.two (.pc [(.normal,[(.s 25,.p 1)])] .o .o) (.two .o (.two .o (.two (.fe [(.s 6,.p 0),(.s 5,.r 6)] [(.exit 0,[(.s 6,.p 0),(.s 5,.r 6)]),(.ret,[(.s 2,.c (.str [])),(.s 3,.c (.k .cp)),(.s 4,.c (.b0 false))])] (.two .o (.pc [(.normal,[(.s 6,.p 0)]),(.ret,[(.s 2,.c (.str [])),(.s 3,.c (.k .cp)),(.s 4,.c (.b0 false))])] .o (.two .o (.pc [(.normal,[(.s 6,.p 0),(.s 7,.p 0)])] (.pc [(.normal,[(.s 52,.p 1)])] .o .o) (.two (.pc [(.normal,[(.s 67,.p 1)])] .o .o) (.two .o (.pc [(.normal,[(.s 8,.p 0)])] .o .o)))))))) .o))))) (by kernel_rfl) fun c a=>by kernel_rfl
def t69:List (cn bn):=⟨69,[],[.v 2],[10],fun c a=>Qh a.1⟩::t68
theorem aMl:cG (cT g) t69:=dh di asg [(12,2),(33,2)] (.two .o (.two .o (.two .o (.two (.two .o (.fe [(.s 6,.p 0),(.s 5,.r 10)] [(.exit 0,[(.s 5,.r 10)])] .o)) .o)))) (by kernel_rfl) fun c a=>by kernel_rfl
def t32:List (cn bn):=⟨32,[],[.v 2],[2,6,1],fun c a=>Ix a.1⟩::t69
theorem aOO:cG (cT g) t32:=dh di aMl [] .o (by kernel_rfl) fun c a=>by kernel_rfl
def t33:List (cn bn):=⟨33,[],[.v 6,.v 6],[1],fun c a=>Qi a.1 a.2.1⟩::t32
theorem aOP:cG (cT g) t33:=dh di aOO [] (.two .o (.two .o (.two (.two .o (.fe [(.s 5,.p 0)] [(.exit 0,[]),(.ret,[(.s 4,.c (.b0 false))])] .o)) .o))) (by kernel_rfl) fun c a=>by kernel_rfl
def t7:List (cn bn):=⟨7,[],[.v 26,.v 2],[0,0],fun c a=>Qj a.1 a.2.1⟩::t33
theorem jI:cG (cT g) t7:=dh di aOP [] (.two .o (.two .o (.two .o (.two .o (.two .o (.two (.two .o (.fe [(.s 9,.p 1),(.s 10,.p 0)] [(.exit 0,[(.s 9,.p 1)])] .o)) (.two .o (.two (.two .o (.fe [(.s 11,.p 0)] [(.exit 2,[]),(.ret,[(.s 4,.p 0),(.s 5,.c (.int .i64 0))])] (.two .o (.two (.two .o (.pc [(.normal,[(.s 70,.p 1)])] .o .o)) .o)))) .o)))))))) (by kernel_rfl) fun c a=>by kernel_rfl
def t8:List (cn bn):=⟨8,[],[.v 28,.v 28],[1],fun c a=>Fx a.1 a.2.1⟩::t7
theorem L6:cG (cT g) t8:=dh di jI [] (.two .o (.two .o (.two (.two .o (.fe [(.s 13,.p 0)] [(.exit 0,[]),(.ret,[(.s 4,.c (.b0 false))])] .o)) .o))) (by kernel_rfl) fun c a=>by kernel_rfl
def t34:List (cn bn):=⟨34,[],[.v 26,.v 1],[28],fun c a=>Iz a.1 a.2.1⟩::t8
theorem aOQ:cG (cT g) t34:=dh di L6 [] .o (by kernel_rfl) fun c a=>by kernel_rfl
def t9:List (cn bn):=⟨9,[],[.v 26],[28],fun c a=>Ql a.1⟩::t34
theorem arB:cG (cT g) t9:=dh di aOQ [] .o (by kernel_rfl) fun c a=>by kernel_rfl
def t10:List (cn bn):=⟨10,[],[.v 26],[28],fun c a=>avW a.1⟩::t9
theorem arA:cG (cT g) t10:=dh di arB [] .o (by kernel_rfl) fun c a=>by kernel_rfl
def t11:List (cn bn):=⟨11,[],[.v 26],[28],fun c a=>Qm a.1⟩::t10
theorem asq:cG (cT g) t11:=dh di arA [] .o (by kernel_rfl) fun c a=>by kernel_rfl
def t36:List (cn bn):=⟨36,[],[.v 26],[28],fun c a=>Ue a.1⟩::t11
theorem aOR:cG (cT g) t36:=dh di asq [] .o (by kernel_rfl) fun c a=>by kernel_rfl
def t12:List (cn bn):=⟨12,[],[.v 26],[28],fun c a=>Qn a.1⟩::t36
theorem ass:cG (cT g) t12:=dh di aOR [] .o (by kernel_rfl) fun c a=>by kernel_rfl
def t13:List (cn bn):=⟨13,[],[.v 26,.v 0],[2],fun c a=>B2 a.1 a.2.1⟩::t12
theorem aM9:cG (cT g) t13:=dh di ass [(35,2)] (.two .o (.two (.pc [(.normal,[(.s 19,.p 1)])] .o .o) (.two .o (.two .o (.two (.two .o (.fe [(.s 28,.p 0),(.s 6,.r 10)] [(.exit 0,[(.s 6,.r 10)])] .o)) .o))))) (by kernel_rfl) fun c a=>by kernel_rfl
def t75:List (cn bn):=⟨75,[],[.v 0],[2],fun c a=>IB a.1⟩::t13
theorem aMV:cG (cT g) t75:=dh di aM9 [] .o (by kernel_rfl) fun c a=>by kernel_rfl
def t40:List (cn bn):=⟨40,[],[.v 6],[2],fun c a=>Qo a.1⟩::t75
theorem asr:cG (cT g) t40:=dh di aMV [] (.two .o (.two .o (.two (.two .o (.fe [(.s 3,.p 2),(.s 4,.p 0)] [(.exit 0,[(.s 3,.p 2)])] (.two .o (.two (.pc [(.normal,[(.s 3,.p 2)])] .o .o) .o)))) .o))) (by kernel_rfl) fun c a=>by kernel_rfl
def t14:List (cn bn):=⟨14,[],[.v 26,.v 0],[2],fun c a=>Fy a.1 a.2.1⟩::t40
theorem aNa:cG (cT g) t14:=dh di asr [] (.two .o (.two (.pc [(.normal,[(.s 19,.p 1)])] .o .o) .o)) (by kernel_rfl) fun c a=>by kernel_rfl
def t41:List (cn bn):=⟨41,[],[.v 6,.v 9,.v 1,.v 0],[2],fun c a=>Uh a.1 a.2.1 a.2.2.1 a.2.2.2.1⟩::t14
theorem aM5:cG (cT g) t41:=dh di aNa [(35,2)] (.two .o (.two .o (.two .o (.two .o (.two (.two .o (.fe [(.s 28,.p 0),(.s 12,.r 10)] [(.exit 0,[(.s 12,.r 10)])] .o)) .o))))) (by kernel_rfl) fun c a=>by kernel_rfl
def t15:List (cn bn):=⟨15,[],[.v 26,.v 0],[2],fun c a=>Qp a.1 a.2.1⟩::t41
theorem aOS:cG (cT g) t15:=dh di aM5 [] .o (by kernel_rfl) fun c a=>by kernel_rfl
def t78:List (cn bn):=⟨78,[],[.v 6],[2],fun c a=>Qq a.1⟩::t15
theorem Qt:cG (cT g) t78:=dh di aOS [] (.two .o (.two .o (.two (.two .o (.fe [(.s 3,.p 2),(.s 4,.p 0)] [(.exit 0,[(.s 3,.p 2)])] (.two .o (.two (.pc [(.normal,[(.s 3,.p 2)])] .o .o) .o)))) .o))) (by kernel_rfl) fun c a=>by kernel_rfl
def t42:List (cn bn):=⟨42,[],[.v 6,.v 9,.v 1,.v 0],[2],fun c a=>Uj a.1 a.2.1 a.2.2.1 a.2.2.2.1⟩::t78
theorem aM6:cG (cT g) t42:=dh di Qt [] .o (by kernel_rfl) fun c a=>by kernel_rfl
def t16:List (cn bn):=⟨16,[],[.v 26,.v 0],[2],fun c a=>Qr a.1 a.2.1⟩::t42
theorem aOT:cG (cT g) t16:=dh di aM6 [] .o (by kernel_rfl) fun c a=>by kernel_rfl
def t3:List (cn bn):=⟨3,[],[.v 26,.v 0,.v 0,.v 2],[1],fun c a=>Qs a.1 a.2.1 a.2.2.1 a.2.2.2.1⟩::t16
theorem b1:cG (cT g) t3:=dh di aOT [] (.two .o (.two .o (.two (.pc [(.normal,[(.s 22,.p 1)])] .o .o) (.two .o (.two .o (.pc [(.normal,[(.s 8,.p 1)])] .o .o)))))) (by kernel_rfl) fun c a=>by kernel_rfl
theorem ast:cT g 3=some (.code (BF (cT g) 3)):=(Jl (J:=bn) (e:=⟨3,[],[.v 26,.v 0,.v 0,.v 2],[1],fun c a=>Qs a.1 a.2.1 a.2.2.1 a.2.2.2.1⟩) (by kernel_rfl)).1
theorem asu (m:Model)(i c:Int)(s:bH):bZ (cT g) (.fn 3 [] []) [vn m,.int .i64 i,.int .i64 c,.str s] []=some (.bool true,[],0):=b1.hd [] [] () (m,i,c,s,()) [] _ true rfl (.nil []) ⟨_,rfl,_,rfl,_,rfl,_,rfl,rfl⟩ (arS m i c s)
end
end Go.Abs.mN
