/- Texts of this claim, joined and written short by a program. -/
import Derived.Test.YtgkcikhegodchaaGreatDoorP01
import Derived.Test.YtgkcikhegodchaaGreatDoorP09
import Derived.Test.YtgkcikhegodchaaGreatDoorP00
set_option linter.unusedVariables false
set_option linter.unusedSimpArgs false
set_option linter.unusedSectionVars false
namespace Go.Abs
open Go
def AB (es:Nat):V->Bool
 | .cu| .emp=>true
 | .list bV _=>bV==es
 | _=>false
def el:V->List V
 | .list _ ds=>ds
 | _=>[]
section
variable{call:c5}{ah:ai->V}{H:Heap}{low:Nat}
theorem sQ (x:ai):ch call ah H low (.mv x)=some (ah x,H,low):=rfl
theorem qR (c a b:ai):ch call ah H low (.pick c a b)=(ri (ah c)).map fun t=>(if t then ah a else ah b,H,low):=rfl
theorem tS (z:List V):ch call ah H low (.alloc z)=some (.ptr H.length 0,H++[.cells z],low):=rfl
theorem ys (x:ai):ch call ah H low (.box x)=if bM (aI (ah x))then some (.ptr H.length 0,H++[.cells (aI (ah x))],low)else none:=rfl
theorem o3 (sh:Option Nat)(x:ai):ch call ah H low (.load sh x)=(kt H sh (ah x)).map fun v=>(v,H,low):=rfl
theorem mY (n:Nat)(a x:ai):ch call ah H low (.store n a x)=(j6 H n (ah a) (ah x)).map fun(H',l)=>(.undef,H',min low l):=rfl
theorem n9 (op:BinOp)(x y:ai):ch call ah H low (.bin op x y)=(eF op (ah x) (ah y)).map fun v=>(v,H,low):=rfl
theorem rF (op:UnOp)(x:ai):ch call ah H low (.un op x)=(rk op (ah x)).map fun v=>(v,H,low):=rfl
theorem sR (k:Nat)(neg:Bool)(x y:ai):ch call ah H low (.sk k neg x y)=(rj k (ah x) (ah y)).map fun e=>(.bool (if neg then !e else e),H,low):=rfl
theorem Qj (i:Nat)(a b:List ai):ch call ah H low (.tk i a b)=some (.fn i (a.map ah) (b.map ah),H,low):=rfl
theorem Yz:ch call ah H low .mkMap=some (.map H.length,H++[.map []],low):=rfl
theorem tT (x:ai)(i:Nat):ch call ah H low (.extract x i)=match ah x with
 | .aF vs=>(vs[i]?).map fun v=>(v,H,low)
 | _=>none:=rfl
theorem alS (off:Nat)(sh:Option Nat)(x:ai):ch call ah H low (.field off sh x)=match ah x with
 | .agg vs=>(iV vs off sh).map fun v=>(v,H,low)
 | _=>none:=rfl
theorem o4 (off:Nat)(x:ai):ch call ah H low (.fieldAddr off x)=match ah x with
 | .ptr l o=>some (.ptr l (o+off),H,low)
 | .hz l es i f tag=>some (.hz l es i (f+off) tag,H,low)
 | .dz vs f=>some (.dz vs (f+off),H,low)
 | _=>none:=rfl
theorem pZ (f:ai)(args:List ai):ch call ah H low (.call false f args)=match fb H low (args.map ah)with
 |some (vs,H',low')=>match call (ah f) vs H' with
  |some (v,Jl,l)=>if flat v=true/\H'.length<=l then some (v,H,low)else some (v,Jl,min low' l)
  |none=>none
 |none=>none:=rfl
theorem oa (f:ai)(args:List ai):ch call ah H low (.call true f args)=match call (ah f) (args.map ah) H with
 |some (v,H',l)=>some (v,H',min low l)
 |none=>none:=rfl
theorem o5 (es bytes:Nat)(a b:ai):ch call ah H low (.append es bytes a b)=step ah H low (.append es bytes a b):=rfl
theorem Qk (es:Nat)(z:List V)(n:Nat)(ps:List (Nat × ai))(jG:Bool):ch call ah H low (.lit es z n ps jG)=step ah H low (.lit es z n ps jG):=rfl
theorem Ql (es:Nat)(z:List V)(b:Nat)(l c:ai):ch call ah H low (.mkSlice es z b l c)=step ah H low (.mkSlice es z b l c):=rfl
theorem Df (es:Nat)(x:ai)(lo hi mx:Option ai):ch call ah H low (.tl es x lo hi mx)=step ah H low (.tl es x lo hi mx):=rfl
theorem Ko (k:Nat)(z:V)(x i:ai)(ok:Bool):ch call ah H low (.lookup k z x i ok)=step ah H low (.lookup k z x i ok):=rfl
theorem YA (k:Nat)(m x v:ai):ch call ah H low (.qu k m x v)=step ah H low (.qu k m x v):=rfl
theorem YB (m:Bool)(x y:ai):ch call ah H low (.vM m x y)=step ah H low (.vM m x y):=rfl
theorem YC{x:ai}(es:Nat)(h:AB es (ah x)=true):ch call ah H low (.len 1 x)=some (.int .i64 (el (ah x)).length,H,low):=by
 show step ah H low (.len 1 x)=_;cases hx:ah x<;>simp_all [AB,step,el]
theorem alT{es:Nat}{x i:ai}(h:AB es (ah x)=true):ch call ah H low (.indexAddr es x i)=match lj (ah i)with
  |some k=>((el (ah x))[k]?).map fun d=>(.dz (aI d) 0,H,low)
  |none=>none:=by
 show step ah H low (.indexAddr es x i)=_;cases hx:ah x<;>simp_all [AB,step,el]<;>cases lj (ah i)<;>rfl
end
@[simp] theorem aAG (k : IntKind) (n : Nat) : lj (.int k (n : Int)) = some n := by simp [lj]
@[simp] theorem lv (H : Heap) : eG H H H.length = false := by simp [eG]
theorem wrap_small{n:Int}(h1:-9223372036854775808<=n)(h2:n<9223372036854775808):IntKind.i64.wrap n=n:=by
 have e:(2^IntKind.i64.bits:Int)=18446744073709551616:=rfl;have e':(2^(IntKind.i64.bits-1):Int)=9223372036854775808:=rfl;have s:IntKind.i64.signed=true:=rfl;simp only[IntKind.wrap,e,e',s,dy,decide_eq_true_eq];split<;>omega
theorem gH (e:Env)(t ed:Nat)(v:V):bZ (ga e t v) ed=if ed=t then v else bZ e ed:=by
 induction e with
 |nil=>
  by_cases h:ed=t
  ·subst h;simp[ga,bZ]
  ·simp[ga,bZ,h,lI h]
 |cons p r ih=>
  obtain⟨k,u⟩:=p;simp only[ga];split
  ·rename_i hk
   subst hk;by_cases h:ed=k
   ·subst h;simp[bZ]
   ·simp[bZ,h,lI h]
  ·rename_i hk
   simp only[bZ];split
   ·rename_i h
    rw[if_neg (by omega)]
   ·exact ih
def tU (b n i t blk ex:Nat)(body:cF):cF:=
 .seq (.region [⟨some (b,true),.bin .lss (.var i) (.var n),none⟩] none) (.seq (.cond (.var b) (.skip) (.exit ex)) (.seq (.block blk body)
  (.region [⟨some (t,false),.bin .add (.var i) (.const (.int .i64 1)),none⟩,⟨some (i,true),.mv (.tmp t),none⟩] none)))
theorem alU{aa:Nat->Option cc}{b n i t blk ex:Nat}{body:cF}{I:Nat->aw->Prop}{Q:X->aw->Prop}{N:Nat}(fM:N<4611686018427387904)(Xk:b≠i)(hex:ex≠blk)
  (bp:∀k st,I k st->bZ st.ay i=.int .i64 k/\bZ st.ay n=.int .i64 N/\st.low<=st.H.length)
  (round:∀k st,k<N->I k st->∃x st2,er aa body {st with aM:=[],ay:=ga st.ay b (.bool true)}=some (x,st2)/\
    if x=.normal\/x=.exit blk then bZ st2.ay i=.int .i64 k/\st2.low<=st2.H.length/\I (k+1) {st2 with aM:=[],ay:=ga st2.ay i (.int .i64 ((k+1:Nat):Int))}else Q x st2)
  (done:∀st,I N st->Q (.exit ex) {st with aM:=[],ay:=ga st.ay b (.bool false)}):
  ∀j k st,k+j=N->I k st->∃x bf,er aa (.loop (tU b n i t blk ex body)) st=some (x,bf)/\Q x bf:=by
 have aG:∀k st,I k st->er aa (.region [⟨some (b,true),.bin .lss (.var i) (.var n),none⟩] none) st=some (.normal,{st with aM:=[],ay:=ga st.ay b (.bool (decide (k<N)))}):=fun k st h=>by
  obtain⟨h1,h2,au⟩:=bp k st h;rw[lJ];simp[c8,gS,n9,ai.ah,h1,h2,eF,aw.put,pz au]
 intro j
 induction j with
 |zero=>
  intro k st hk h;have:k=N:=by omega
  subst this;refine⟨.exit ex,_,?_,done st h⟩;rw[tq];simp only[tU];rw[jn,aG k st h];simp only[];rw[jn,nu];simp[ai.ah,gH,sv]
 |succ j ih=>
  intro k st hk h;obtain⟨x,st2,h1,h2⟩:=round k st (by omega) h
  have Dd:∀r,er aa (.seq (.block blk body) (.region [⟨some (t,false),.bin .add (.var i) (.const (.int .i64 1)),none⟩,⟨some (i,true),.mv (.tmp t),none⟩] none)) {st with aM:=[],ay:=ga st.ay b (.bool true)}=r->
    er aa (tU b n i t blk ex body) st=r:=fun r hr=>by
   simp only[tU];rw[jn,aG k st h];simp only[];rw[jn,nu];have hd:decide (k<N)=true:=by simp;omega
   simp[ai.ah,gH,oE,hd,hr]
  by_cases hx:x=.normal\/x=.exit blk
  ·rw[if_pos hx]at h2
   obtain⟨h2,a7,au⟩:=h2
   have hblk:er aa (.block blk body) {st with aM:=[],ay:=ga st.ay b (.bool true)}=some (.normal,st2):=by
    rw[pE,h1];rcases hx with rfl|rfl
    ·rfl
    ·simp
   have alV:er aa (.region [⟨some (t,false),.bin .add (.var i) (.const (.int .i64 1)),none⟩,⟨some (i,true),.mv (.tmp t),none⟩] none) st2=some (.normal,{st2 with aM:=[],ay:=ga st2.ay i (.int .i64 ((k+1:Nat):Int))}):=by
    have hw:IntKind.i64.wrap ((k:Int)+1)=((k+1:Nat):Int):=by rw[wrap_small]<;>omega
    rw[lJ];simp[c8,gS,n9,sQ,ai.ah,h2,eF,hw,aw.put,bZ,pz a7]
   have qP:=Dd _ (by rw[jn,hblk]);simp only[alV]at qP;obtain⟨e1,bf,h5,fL⟩:=ih (k+1) _ (by omega) au;exact⟨e1,bf,by rw[tq,qP];exact h5,fL⟩
  ·rw[if_neg hx]at h2
   have hblk:er aa (.block blk body) {st with aM:=[],ay:=ga st.ay b (.bool true)}=some (x,st2):=by
    rw[pE,h1];cases x with
    |normal=>exact absurd (.inl rfl) hx
    |exit id=>
     have:id≠blk:=fun e=>hx (.inr (by rw[e]));simp[this]
    |ret=>rfl
   have qP:=Dd (some (x,st2)) (by
    rw[jn,hblk];cases x with
    |normal=>exact absurd (.inl rfl) hx
    |exit id=>rfl
    |ret=>rfl)
   refine⟨x,st2,?_,h2⟩;rw[tq,qP];cases x with
   |normal=>exact absurd (.inl rfl) hx
   |exit id=>rfl
   |ret=>rfl
end Go.Abs
namespace Go.Abs
open Go
end Go.Abs
namespace Go.Abs.S
open Go Go.Abs
abbrev t0:ai:=.tmp 0
abbrev v0:ai:=.var 0
abbrev t1:ai:=.tmp 1
abbrev v1:ai:=.var 1
abbrev t2:ai:=.tmp 2
abbrev v2:ai:=.var 2
abbrev t3:ai:=.tmp 3
abbrev v3:ai:=.var 3
abbrev t4:ai:=.tmp 4
abbrev v4:ai:=.var 4
abbrev t5:ai:=.tmp 5
abbrev v5:ai:=.var 5
abbrev t6:ai:=.tmp 6
abbrev v6:ai:=.var 6
abbrev t7:ai:=.tmp 7
abbrev jS:ai:=.var 7
abbrev t8:ai:=.tmp 8
abbrev qS:ai:=.var 8
abbrev t9:ai:=.tmp 9
abbrev v9:ai:=.var 9
abbrev t10:ai:=.tmp 10
abbrev v10:ai:=.var 10
abbrev t11:ai:=.tmp 11
abbrev v11:ai:=.var 11
abbrev t12:ai:=.tmp 12
abbrev v12:ai:=.var 12
abbrev t13:ai:=.tmp 13
abbrev YD:ai:=.var 13
abbrev t14:ai:=.tmp 14
abbrev Kp:ai:=.var 14
abbrev t15:ai:=.tmp 15
abbrev YE:ai:=.var 15
abbrev t16:ai:=.tmp 16
abbrev t17:ai:=.tmp 17
abbrev v17:ai:=.var 17
abbrev t18:ai:=.tmp 18
abbrev YF:ai:=.var 18
abbrev t19:ai:=.tmp 19
abbrev t20:ai:=.tmp 20
abbrev v20:ai:=.var 20
abbrev t21:ai:=.tmp 21
abbrev t22:ai:=.tmp 22
abbrev t23:ai:=.tmp 23
abbrev v23:ai:=.var 23
abbrev t24:ai:=.tmp 24
abbrev t25:ai:=.tmp 25
abbrev t26:ai:=.tmp 26
abbrev v26:ai:=.var 26
abbrev t27:ai:=.tmp 27
abbrev alW:ai:=.var 27
abbrev t28:ai:=.tmp 28
abbrev t29:ai:=.tmp 29
abbrev t30:ai:=.tmp 30
abbrev t31:ai:=.tmp 31
abbrev t32:ai:=.tmp 32
abbrev v32:ai:=.var 32
abbrev t33:ai:=.tmp 33
abbrev t34:ai:=.tmp 34
abbrev t35:ai:=.tmp 35
abbrev t36:ai:=.tmp 36
abbrev t37:ai:=.tmp 37
abbrev v37:ai:=.var 37
abbrev t38:ai:=.tmp 38
abbrev t39:ai:=.tmp 39
abbrev v39:ai:=.var 39
abbrev t40:ai:=.tmp 40
abbrev t41:ai:=.tmp 41
abbrev v41:ai:=.var 41
abbrev t42:ai:=.tmp 42
abbrev t43:ai:=.tmp 43
abbrev alX:ai:=.var 43
abbrev t44:ai:=.tmp 44
abbrev v44:ai:=.var 44
abbrev t45:ai:=.tmp 45
abbrev t46:ai:=.tmp 46
abbrev t47:ai:=.tmp 47
abbrev t48:ai:=.tmp 48
abbrev alY:ai:=.var 48
abbrev t49:ai:=.tmp 49
abbrev t50:ai:=.tmp 50
abbrev t51:ai:=.tmp 51
abbrev t52:ai:=.tmp 52
abbrev t53:ai:=.tmp 53
abbrev v53:ai:=.var 53
abbrev t54:ai:=.tmp 54
abbrev t55:ai:=.tmp 55
abbrev v55:ai:=.var 55
abbrev t56:ai:=.tmp 56
abbrev t57:ai:=.tmp 57
abbrev t58:ai:=.tmp 58
abbrev t59:ai:=.tmp 59
abbrev t60:ai:=.tmp 60
abbrev t61:ai:=.tmp 61
abbrev t62:ai:=.tmp 62
abbrev t63:ai:=.tmp 63
abbrev t64:ai:=.tmp 64
abbrev t65:ai:=.tmp 65
abbrev t66:ai:=.tmp 66
abbrev t67:ai:=.tmp 67
abbrev t68:ai:=.tmp 68
abbrev t69:ai:=.tmp 69
abbrev t70:ai:=.tmp 70
abbrev v70:ai:=.var 70
abbrev t71:ai:=.tmp 71
abbrev t72:ai:=.tmp 72
abbrev v72:ai:=.var 72
abbrev t73:ai:=.tmp 73
abbrev t74:ai:=.tmp 74
abbrev t75:ai:=.tmp 75
abbrev t76:ai:=.tmp 76
abbrev t77:ai:=.tmp 77
abbrev t78:ai:=.tmp 78
abbrev t79:ai:=.tmp 79
abbrev t80:ai:=.tmp 80
abbrev t81:ai:=.tmp 81
abbrev t82:ai:=.tmp 82
abbrev t83:ai:=.tmp 83
abbrev t84:ai:=.tmp 84
abbrev t85:ai:=.tmp 85
abbrev t86:ai:=.tmp 86
abbrev t87:ai:=.tmp 87
abbrev t88:ai:=.tmp 88
abbrev t89:ai:=.tmp 89
abbrev t90:ai:=.tmp 90
abbrev t91:ai:=.tmp 91
abbrev t92:ai:=.tmp 92
abbrev t93:ai:=.tmp 93
abbrev t94:ai:=.tmp 94
abbrev t95:ai:=.tmp 95
abbrev t96:ai:=.tmp 96
abbrev t97:ai:=.tmp 97
abbrev alZ:ai:=.var 98
abbrev t100:ai:=.tmp 100
abbrev t101:ai:=.tmp 101
abbrev t102:ai:=.tmp 102
abbrev YG:ai:=.var 103
abbrev v105:ai:=.var 105
abbrev t107:ai:=.tmp 107
abbrev t108:ai:=.tmp 108
abbrev t109:ai:=.tmp 109
abbrev t110:ai:=.tmp 110
abbrev t111:ai:=.tmp 111
abbrev t113:ai:=.tmp 113
abbrev t114:ai:=.tmp 114
abbrev t115:ai:=.tmp 115
abbrev t121:ai:=.tmp 121
abbrev al0:ai:=.var 122
abbrev t123:ai:=.tmp 123
abbrev t124:ai:=.tmp 124
abbrev t125:ai:=.tmp 125
abbrev t126:ai:=.tmp 126
abbrev t127:ai:=.tmp 127
abbrev v127:ai:=.var 127
abbrev t128:ai:=.tmp 128
abbrev t129:ai:=.tmp 129
abbrev v130:ai:=.var 130
abbrev t131:ai:=.tmp 131
abbrev t132:ai:=.tmp 132
abbrev t134:ai:=.tmp 134
abbrev t135:ai:=.tmp 135
abbrev t136:ai:=.tmp 136
abbrev t138:ai:=.tmp 138
abbrev t142:ai:=.tmp 142
abbrev t143:ai:=.tmp 143
abbrev t144:ai:=.tmp 144
abbrev t145:ai:=.tmp 145
abbrev t146:ai:=.tmp 146
abbrev t147:ai:=.tmp 147
abbrev t148:ai:=.tmp 148
abbrev t149:ai:=.tmp 149
abbrev t150:ai:=.tmp 150
abbrev t151:ai:=.tmp 151
abbrev t152:ai:=.tmp 152
abbrev t153:ai:=.tmp 153
abbrev t154:ai:=.tmp 154
abbrev t155:ai:=.tmp 155
abbrev t157:ai:=.tmp 157
abbrev t158:ai:=.tmp 158
abbrev t159:ai:=.tmp 159
abbrev c (n:Int):ai:=.const (.int .i64 n)
abbrev cs (l:List UInt8):ai:=.const (.str l)
abbrev jP:ai:=.const (.bool true)
abbrev k2:ai:=.const (.bool false)
abbrev o6:ai:=.const .cu
abbrev fn (i:Nat):ai:=.func i
def r (n:Nat)(o:cX):bU:=⟨some (n,false),o,none⟩
def o (n:Nat)(p:cX):bU:=⟨some (n,true),p,none⟩
def n (o:cX):bU:=⟨none,o,none⟩
def rg (n:Nat)(x:ai)(w:Bool)(o:cX):bU:=⟨some (n,false),o,some (x,w)⟩
def m (x:ai):cX:=.mv x
def b6 (x:ai):cX:=.load none x
def ls (k:Nat)(x:ai):cX:=.load (some k) x
def st (k:Nat)(a x:ai):cX:=.store k a x
def ef (k:Nat)(x:ai):cX:=.fieldAddr k x
def jv (k:Nat)(x i:ai):cX:=.indexAddr k x i
def fs (k n:Nat)(x:ai):cX:=.field k (some n) x
def ex (x:ai)(i:Nat):cX:=.extract x i
def hE (k:Nat)(x:ai):cX:=.len k x
def eq (x y:ai):cX:=.bin .eql x y
def ne (x y:ai):cX:=.bin .neq x y
def lt (x y:ai):cX:=.bin .lss x y
def gt (x y:ai):cX:=.bin .gtr x y
def ge (x y:ai):cX:=.bin .geq x y
def le (x y:ai):cX:=.bin .leq x y
def dh (x y:ai):cX:=.bin .add x y
def no (x:ai):cX:=.un .not x
def ez (x y z:ai):cX:=.pick x y z
def iA (f:ai)(l:List ai):cX:=.call false f l
def ap (e b:Nat)(x y:ai):cX:=.append e b x y
def kb (x:ai):cX:=.box x
def q (a b:cF):cF:=.seq a b
def R (l:List bU):cF:=.region l none
def sS (l:List bU)(b:List Nat):cF:=.region l (some b)
def hY (x:ai)(a b:cF):cF:=.cond x a b
def b2 (i:Nat)(a:cF):cF:=.block i a
def k:cF:=.skip
def e (i:Nat):cF:=.exit i
def rt:cF:=.ret
abbrev nl:V:=.cu
abbrev z:V:=.int .i64 0
abbrev nT:V:=.str []
abbrev al1:V:=.bool false
abbrev em:V:=.emp
end Go.Abs.S
set_option maxRecDepth 100000
namespace Go.Abs.bA
open Go Go.Abs Go.Proofs Go.Abs.S
noncomputable section
def jT:Code->Code| .seq a _=>a|c=>c
def im:Code->Code| .seq _ a=>a|c=>c
def al2:cF:=q (R [r 14 (jv 2 v10 v12),r 15 (ls 2 t14),o 5 (.alloc [z,z]),n (st 2 v5 t15)]) (R [r 16 (m v3),r 17 (ef 0 v5),r 18 (b6 t17),r 19 (.lookup 0 (.int .i64 0) t16 t18 false),r 20 (ef 1 v5),r 21 (b6 t20),r 22 (dh t19 t21),n (.qu 0 t16 t18 t22)])
def YH:o2:=⟨[R [o 2 (m o6)],R [r 9 (.mkMap),o 3 (m t9)],q (R [o 10 (m v0),o 11 (hE 1 v10),o 12 (m (c 0))]) (b2 0 (.loop (tU 13 11 12 23 1 0 al2))),R [o 6 (m o6)]],⟨[r 24 (m v3)],t24,25,(26,false),[o 27 (ex t26 0)],alW,3,(28,false),[r 29 (ex t28 0),r 30 (ex t28 1),o 7 (m t29),o 8 (m t30)],q (R [r 31 (m qS),o 32 (ne t31 (c 0))]) (hY v32 (R [r 33 (m v6),r 34 (m jS),r 35 (m qS),r 36 (.build [z,z] [(0,1,t34),(1,1,t35)]),r 37 (.lit 2 [z,z] 1 [(0,t36)] true),r 38 (ap 2 16 t33 t37),o 6 (m t38)]) k)⟩,q (R [r 39 (m v6),r 40 (.call true (fn 93) [t39,(fn 94)])]) (q (R [r 41 (m v6),o 2 (m t41)]) rt),[.tmp 2]⟩
def Dg:Code:=Tryz.f47.body.getD .skip
theorem al3 (g:Nat->Option Obj):Qh (A g) Tryz.f47 YH:=⟨[jT Dg,jT (im Dg),jT (im (im Dg)),jT (im (im (im Dg)))],jT (im (im (im (im Dg)))),im (im (im (im (im Dg)))),by kernel_rfl,by kernel_rfl,by kernel_rfl,by kernel_rfl,by kernel_rfl,by kernel_rfl⟩
variable (g:Nat->Option Obj)
theorem al4:YH.jJ (bN (iQ g) 120) 120 Tryz.f47.ntmps Wd:=⟨⟨by kernel_rfl,by kernel_rfl,by kernel_rfl⟩,⟨by kernel_rfl,by kernel_rfl,by kernel_rfl⟩,⟨by kernel_rfl,by kernel_rfl,by kernel_rfl⟩,⟨by kernel_rfl,by kernel_rfl,by kernel_rfl⟩,⟨by kernel_rfl,by kernel_rfl,by kernel_rfl⟩,⟨by kernel_rfl,by kernel_rfl,by kernel_rfl⟩,⟨by kernel_rfl,by kernel_rfl,by kernel_rfl⟩,trivial⟩
def hZ:Nat->Option cc:=over (iQ g) 47 (jI Wd)
end
end Go.Abs.bA
