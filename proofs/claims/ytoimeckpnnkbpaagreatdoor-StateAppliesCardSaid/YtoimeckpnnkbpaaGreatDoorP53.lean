/- Texts of this claim, joined and written short by a program. -/
import Derived.Test.YtoimeckpnnkbpaaGreatDoorP34
import Derived.Test.YtoimeckpnnkbpaaGreatDoorP33
import Derived.Test.YtoimeckpnnkbpaaGreatDoorP36
import Derived.Test.YtoimeckpnnkbpaaGreatDoorP00
set_option linter.unusedVariables false
set_option linter.unusedSimpArgs false
set_option linter.unusedSectionVars false
set_option maxRecDepth 100000
namespace Go.Abs.hk
open Go Go.Abs Go.Abs.gK Go.Abs.Lex
noncomputable section
variable{g:Nat->Option Obj}
theorem axc:∀q∈([(16,0,8)]:List (Nat × Nat × Nat)),WZ bn (cT g) q.1 q.2:=fun q h=>by
 simp only[dA,sP,or_false]at h;rcases h with rfl;exact⟨8,[aD 0],by kernel_rfl,by decide⟩
def t0:List (cn bn):=[]
theorem gU:cG (cT g) t0:=fun _ h=>by cases h
def t5:List (cn bn):=⟨5,[],[],[1],fun c a=>auN⟩::t0
theorem et:cG (cT g) t5:=gU.cons (tI rfl fun H a r h=>by
 cases h;exact Dy (spec:=Dd [] (.bool true)) (by kernel_rfl) rfl (by kernel_rfl) H)
def t230:List (cn bn):=⟨230,[],[.v 3],[1],fun c a=>yT a.1⟩::t5
theorem avG:cG (cT g) t230:=dh di et [] (.two .o (.pu [2] .o)) (by kernel_rfl) fun c a=>by kernel_rfl
def t233:List (cn bn):=⟨233,[],[.v 3],[1],fun c a=>yU a.1⟩::t230
theorem avH:cG (cT g) t233:=dh di avG [] (.two .o (.pu [2] .o)) (by kernel_rfl) fun c a=>by kernel_rfl
def t232:List (cn bn):=⟨232,[],[.v 3],[1],fun c a=>DT a.1⟩::t233
theorem avI:cG (cT g) t232:=dh di avH [] (.two .o (.pc [(.normal,[(.s 2,.p 1)])] .o .o)) (by kernel_rfl) fun c a=>by kernel_rfl
def t235:List (cn bn):=⟨235,[],[.v 3],[1],fun c a=>A9 a.1⟩::t232
theorem avJ:cG (cT g) t235:=dh di avI [] (.two .o (.pu [2] .o)) (by kernel_rfl) fun c a=>by kernel_rfl
def t428:List (cn bn):=⟨428,[],[.v 2,.v 2],[1],fun c a=>Ni a.1 a.2.1⟩::t235
theorem ax3:cG (cT g) t428:=dh di avJ [] (.two .o (.pc [(.normal,[(.s 4,.p 1)])] .o .o)) (by kernel_rfl) fun c a=>by kernel_rfl
def t359:List (cn bn):=⟨359,[],[.v 2,.v 2],[1],fun c a=>HL a.1 a.2.1⟩::t428
theorem ax4:cG (cT g) t359:=dh di ax3 [] .o (by kernel_rfl) fun c a=>by kernel_rfl
def t360:List (cn bn):=⟨360,[],[.v 2,.v 3],[0],fun c a=>strings_IndexByte a.1 a.2.1⟩::t359
theorem ax5:cG (cT g) t360:=ax4.cons (tI rfl fun H ⟨s,c,_⟩ r h=>by
 cases h;exact Dy (spec:=F8) (by kernel_rfl) rfl rfl H)
def t234:List (cn bn):=⟨234,[],[.v 2],[0],fun c a=>A7 a.1⟩::t360
theorem avK:cG (cT g) t234:=dh di ax5 [(5,2)] (.two .o (.two (.two .o (.fe [(.s 7,.p 0)] [(.exit 0,[]),(.ret,[(.s 2,.c (.int .i64 2))])] .o)) (.two (.pc [(.normal,[(.s 22,.p 1)])] .o .o) .o))) (by kernel_rfl) fun c a=>by kernel_rfl
def t236:List (cn bn):=⟨236,[],[.v 2],[1],fun c a=>DP a.1⟩::t234
theorem aOe:cG (cT g) t236:=dh di avK [] (.two .o (.pc [(.normal,[(.s 2,.p 1)])] .o .o)) (by kernel_rfl) fun c a=>by kernel_rfl
def t231:List (cn bn):=⟨231,[],[.v 2,.f [3] 1],[0],fun c a=>A8 a.1 a.2.1⟩::t236
theorem avL:cG (cT g) t231:=dh di aOe [] (.two .o (.two .o (.two (.fe [(.s 5,.p 0)] [(.exit 0,[(.s 5,.p 0)])] (.two (.pc [(.normal,[(.s 16,.p 1)])] .o .o) .o)) .o))) (by kernel_rfl) fun c a=>by kernel_rfl
def t358:List (cn bn):=⟨358,[],[.v 3],[1],fun c a=>Ba a.1⟩::t231
theorem aMo:cG (cT g) t358:=dh di avL [] .o (by kernel_rfl) fun c a=>by kernel_rfl
def t229:List (cn bn):=⟨229,[],[.v 2],[0],fun c a=>DS a.1⟩::t358
theorem avN:cG (cT g) t229:=dh di aMo [] (.two .o (.two .o (.two (.fe [(.s 3,.p 0)] [(.exit 0,[(.s 3,.p 0)]),(.ret,[(.s 2,.p 0)])] .o) .o))) (by kernel_rfl) fun c a=>by kernel_rfl
def t117:List (cn bn):=⟨117,[],[.v 2],[0],fun c a=>pU a.1⟩::t229
theorem aN4:cG (cT g) t117:=avN.cons (tI rfl fun H ⟨w,_⟩ r h=>by
 cases h;exact an5 ⟨X5 avG.hd,X6 avH.hd,X7 avI.hd,X8 avJ.hd,X9 aOe.hd,Ya avK.hd,Yb avL.hd,Yc avN.hd,Yd aMo.hd,by kernel_rfl,by kernel_rfl,by kernel_rfl,by kernel_rfl,⟨Co,by kernel_rfl,by kernel_rfl⟩⟩ w H)
def t7:List (cn bn):=⟨7,[],[.v 6],[1],fun c a=>auO a.1⟩::t117
theorem jI:cG (cT g) t7:=dh di aN4 [] (.two .o (.two (.two .o (.fe [(.s 3,.p 0)] [(.exit 0,[]),(.ret,[(.s 2,.c (.b0 false))])] (.two .o (.two (.pc [(.normal,[(.s 21,.p 1)])] .o .o) .o)))) .o)) (by kernel_rfl) fun c a=>by kernel_rfl
def t8:List (cn bn):=⟨8,[],[.v 6,.v 6],[1],fun c a=>Qi a.1 a.2.1⟩::t7
theorem L6:cG (cT g) t8:=dh di jI [] (.two .o (.two .o (.two (.two .o (.fe [(.s 5,.p 0)] [(.exit 0,[]),(.ret,[(.s 4,.c (.b0 false))])] .o)) .o))) (by kernel_rfl) fun c a=>by kernel_rfl
def t37:List (cn bn):=⟨37,[],[.v 0],[1],fun c a=>axr a.1⟩::t8
theorem aOb:cG (cT g) t37:=dh di L6 [] (.two .o (.pu [2] .o)) (by kernel_rfl) fun c a=>by kernel_rfl
def t15:List (cn bn):=⟨15,[],[.v 19],[1],fun c a=>awr a.1⟩::t37
theorem aOS:cG (cT g) t15:=dh di aOb [] (.two .o (.two (.two .o (.fe [(.s 3,.p 0)] [(.exit 0,[]),(.ret,[(.s 2,.c (.b0 false))])] .o)) .o)) (by kernel_rfl) fun c a=>by kernel_rfl
def t17:List (cn bn):=⟨17,[],[.v 6,.v 19],[6],fun c a=>awT a.1 a.2.1⟩::t15
theorem aJh:cG (cT g) t17:=axs di aOS [] [(16,0,8)] axc (.two .o (.two .o (.two (.two .o (.fe [(.s 12,.p 0),(.s 5,.r 6),(.m 0 0,.d)] [(.exit 0,[(.s 5,.r 6),(.m 0 0,.d)])] (.two .o (.two .o (.two (.two .o (.pu [25] .o)) .o))))) .o))) (by kernel_rfl) fun c a=>by kernel_rfl
def t18:List (cn bn):=⟨18,[],[.v 6,.v 19],[6],fun c a=>awU a.1 a.2.1⟩::t17
theorem aJq:cG (cT g) t18:=dh di aJh [(8,0)] (.two .o (.two .o (.two (.two .o (.fe [(.s 6,.p 0),(.s 5,.r 6),(.m 0 0,.d)] [(.exit 0,[(.s 5,.r 6),(.m 0 0,.d)])] (.two .o (.two (.two .o (.pu [29] .o)) .o)))) .o))) (by kernel_rfl) fun c a=>by kernel_rfl
def t19:List (cn bn):=⟨19,[],[.v 6,.v 6],[1],fun c a=>Qf a.1 a.2.1⟩::t18
theorem aOk:cG (cT g) t19:=dh di aJq [] (.two .o (.two .o (.two (.two .o (.fe [(.s 13,.p 0)] [(.exit 0,[]),(.ret,[(.s 4,.c (.b0 false))])] .o)) .o))) (by kernel_rfl) fun c a=>by kernel_rfl
def t4:List (cn bn):=⟨4,[],[.v 6,.v 19],[1],fun c a=>awV a.1 a.2.1⟩::t19
theorem cL:cG (cT g) t4:=axs di aOk [] [(16,0,8)] axc (.two .o (.two .o (.two (.pc [(.normal,[(.s 15,.p 1)])] .o .o) (.two .o (.pc [(.normal,[(.s 4,.p 1)])] .o .o))))) (by kernel_rfl) fun c a=>by kernel_rfl
theorem aJr:cT g 4=some (.code (BF (cT g) 4)):=(Jl (J:=bn) (e:=⟨4,[],[.v 6,.v 19],[1],fun c a=>awV a.1 a.2.1⟩) (by kernel_rfl)).1
theorem asu (l:ak Int)(d:ak Change)(hl:cm l.l)(hd:cm d.l):bZ (cT g) (.fn 4 [] []) [bg 1 aD l,bg 2 tq d] []=some (.bool true,[],0):=cL.hd [] [] () (l,d,()) [] _ true rfl (.nil []) ⟨_,rfl,_,rfl,rfl⟩ (aHe l d hl hd)
end
end Go.Abs.hk
