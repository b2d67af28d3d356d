/- Texts of this claim, joined and written short by a program. -/
import Derived.Test.YtemakagmboeodaaGreatDoorP27
import Derived.Test.YtemakagmboeodaaGreatDoorP28
import Derived.Test.YtemakagmboeodaaGreatDoorP26
import Derived.Test.YtemakagmboeodaaGreatDoorP00
set_option linter.unusedVariables false
set_option linter.unusedSimpArgs false
set_option linter.unusedSectionVars false
set_option maxRecDepth 100000
namespace Go.Abs.cb
open Go Go.Abs Go.Abs.fM
noncomputable section
variable{g:Nat->Option Obj}
theorem ahz:∀q∈([(13,6,16)]:List (Nat × Nat × Nat)),sj gx (jY g) q.1 q.2:=fun q h=>by
 simp only[cY,u7,or_false]at h;rcases h with rfl;exact⟨8,[iF 0,iF 0],by kernel_rfl,by decide⟩
def t0:List (eU gx):=[]
theorem oV:ib (jY g) t0:=fun _ h=>by cases h
def t4:List (eU gx):=⟨4,[],[],[1],fun c a=>G9⟩::t0
theorem fC:ib (jY g) t4:=oV.cons (S7 rfl fun H a r h=>by
 cases h;exact QX (spec:=yt [] (.bool true)) (by kernel_rfl) rfl (by kernel_rfl) H)
def t19:List (eU gx):=⟨19,[],[.v 0],[1],fun c a=>zv a.1⟩::t4
theorem ahA:ib (jY g) t19:=pQ oW fC [] (.two .o (.pu [2] .o)) (by kernel_rfl) fun c a=>by kernel_rfl
def t5:List (eU gx):=⟨5,[],[.v 5],[1],fun c a=>CH a.1⟩::t19
theorem mG:ib (jY g) t5:=pQ oW ahA [] (.two .o (.two (.two .o (.jz [(.s 3,.p 0)] [(.exit 0,[]),(.ret,[(.s 2,.c (.eS false))])] .o)) .o)) (by kernel_rfl) fun c a=>by kernel_rfl
def t6:List (eU gx):=⟨6,[],[.v 7],[1],fun c a=>zw a.1⟩::t5
theorem qx:ib (jY g) t6:=pQ oW mG [] (.two .o (.two (.two .o (.jz [(.s 3,.p 0)] [(.exit 0,[]),(.ret,[(.s 2,.c (.eS false))])] .o)) .o)) (by kernel_rfl) fun c a=>by kernel_rfl
def t7:List (eU gx):=⟨7,[],[.v 5,.v 5],[1],fun c a=>zz a.1 a.2.1⟩::t6
theorem yo:ib (jY g) t7:=pQ oW qx [] (.two .o (.two .o (.two (.two .o (.jz [(.s 5,.p 0)] [(.exit 0,[]),(.ret,[(.s 4,.c (.eS false))])] .o)) .o))) (by kernel_rfl) fun c a=>by kernel_rfl
def t8:List (eU gx):=⟨8,[],[.v 5],[5],fun c a=>qY a.1⟩::t7
theorem Fz:ib (jY g) t8:=yo.cons (S7 rfl fun H ⟨x,_⟩ r h=>QX (spec:=sv) (by kernel_rfl) (afA x) (afE h) H)
def t9:List (eU gx):=⟨9,[],[.v 5],[5],fun c a=>xb a.1⟩::t8
theorem ahB:ib (jY g) t9:=pQ oW Fz [(9,4),(67,4),(72,4),(81,4),(85,4),(103,4)] (.two .o (.two .o (.two (.two .o (.jz [(.s 4,.p 0),(.s 3,.r 5)] [(.exit 0,[(.s 3,.r 5)])] (.two .o (.two (.two .o (.two (.jz [(.s 5,.p 0)] [(.exit 2,[(.s 5,.p 0)])] (.two (.pc [(.normal,[(.s 32,.p 1)])] .o .o) .o)) (.two (.pc [(.normal,[(.s 51,.p 1)])] .o .o) (.two .o (.md 10))))) .o)))) (.two .o (.two (.two .o (.jz [(.s 8,.p 0),(.s 7,.r 5)] [(.exit 4,[(.s 7,.r 5)])] .o)) .o))))) (by kernel_rfl) fun c a=>by kernel_rfl
def t10:List (eU gx):=⟨10,[],[.v 7,.v 7],[1],fun c a=>u1 a.1 a.2.1⟩::t9
theorem ahC:ib (jY g) t10:=pQ oW ahB [] (.two .o (.two .o (.two (.two .o (.jz [(.s 5,.p 0)] [(.exit 0,[]),(.ret,[(.s 4,.c (.eS false))])] .o)) .o))) (by kernel_rfl) fun c a=>by kernel_rfl
def t11:List (eU gx):=⟨11,[],[.v 8],[7],fun c a=>xd a.1⟩::t10
theorem ahD:ib (jY g) t11:=pQ oW ahC [(29,4),(34,0),(46,6)] (.two .o (.two .o (.two (.two .o (.jz [(.s 13,.p 0),(.s 3,.r 5)] [(.exit 0,[(.s 3,.r 5)])] (.two .o (.two .o (.two (.two .o (.two .o (.jz [(.s 19,.p 0),(.s 3,.r 5),(.m 0 0,.d)] [(.exit 2,[(.s 3,.r 5),(.m 0 0,.d)])] .o))) .o))))) (.two .o (.two (.two .o (.jz [(.s 36,.p 0),(.s 8,.r 7)] [(.exit 4,[(.s 8,.r 7)])] .o)) .o))))) (by kernel_rfl) fun c a=>by kernel_rfl
def t12:List (eU gx):=⟨12,[],[.v 7],[7],fun c a=>zH a.1⟩::t11
theorem ahE:ib (jY g) t12:=pQ oW ahD [(7,4),(26,4),(29,0),(30,6),(49,6)] (.two .o (.two .o (.two (.two .o (.jz [(.s 4,.p 0),(.s 3,.r 5)] [(.exit 0,[(.s 3,.r 5)])] .o)) (.two .o (.two .o (.two (.two .o (.jz [(.s 6,.p 0),(.s 5,.r 7)] [(.exit 2,[(.s 5,.r 7)])] .o)) .o)))))) (by kernel_rfl) fun c a=>by kernel_rfl
def t14:List (eU gx):=⟨14,[],[.v 9,.v 7],[0],fun c a=>CL a.1 a.2.1⟩::t12
theorem ahF:ib (jY g) t14:=pQ oW ahE [] (.two .o (.two .o (.two (.two .o (.jz [(.s 5,.p 0),(.s 13,.p 0)] [(.exit 0,[(.s 5,.p 0)])] (.two .o (.two .o (.two (.two .o (.two .o (.jz [(.s 5,.p 0),(.s 19,.p 0)] [(.exit 2,[(.s 5,.p 0)])] .o))) .o))))) .o))) (by kernel_rfl) fun c a=>by kernel_rfl
def t15:List (eU gx):=⟨15,[],[.v 9,.v 7],[0],fun c a=>CM a.1 a.2.1⟩::t14
theorem ahG:ib (jY g) t15:=pQ oW ahF [] (.two .o (.two .o (.two (.two .o (.jz [(.s 5,.p 0),(.s 6,.p 0)] [(.exit 0,[(.s 5,.p 0)])] (.two .o (.two (.two .o (.jz [(.s 5,.p 0),(.s 7,.p 0)] [(.exit 2,[(.s 5,.p 0)])] .o)) .o)))) .o))) (by kernel_rfl) fun c a=>by kernel_rfl
def t3:List (eU gx):=⟨3,[],[.v 5,.v 7,.v 7,.v 0],[1],fun c a=>CN a.1 a.2.1 a.2.2.1 a.2.2.2.1⟩::t15
theorem dk:ib (jY g) t3:=aeS oW ahG [(36,7),(42,0),(47,7)] [(13,6,16)] ahz (.two .o (.two .o (.two (.pc [(.normal,[(.s 24,.p 1)])] .o .o) (.two .o (.pc [(.normal,[(.s 8,.p 1)])] .o .o))))) (by kernel_rfl) fun c a=>by kernel_rfl
theorem ahH:jY g 3=some (.code (uW (jY g) 3)):=(uX (U:=gx) (e:=⟨3,[],[.v 5,.v 7,.v 7,.v 0],[1],fun c a=>CN a.1 a.2.1 a.2.2.1 a.2.2.2.1⟩) (by kernel_rfl)).1
theorem ahI (l:al Term)(a b:al Change)(bound:Int)(hl:k4 l.l)(ha:k4 a.l)(hb:k4 b.l):cp (jY g) (.fn 3 [] []) [b4 2 jU l,b4 2 lH a,b4 2 lH b,iF bound] []=some (.bool true,[],0):=dk.hd [] [] () (l,a,b,bound,()) [] _ true rfl (.nil []) ⟨_,rfl,_,rfl,_,rfl,_,rfl,rfl⟩ (aht l a b bound hl ha hb)
end
end Go.Abs.cb
