/- Texts of this claim, joined and written short by a program. -/
import Derived.Test.YtgkcikhegodchaaGreatDoorS01
import Derived.Test.YtgkcikhegodchaaGreatDoorS09
import Derived.Test.YtgkcikhegodchaaGreatDoorS00
set_option linter.unusedVariables false
set_option linter.unusedSimpArgs false
set_option linter.unusedSectionVars false
namespace Go.Abs
open Go
def zF (es:Nat):V->Bool
 | .bX| .emp=>true
 | .list bK _=>bK==es
 | _=>false
def el:V->List V
 | .list _ ds=>ds
 | _=>[]
section
variable{call:cP}{ag:ai->V}{H:Heap}{low:Nat}
theorem qU (x:ai):b3 call ag H low (.mv x)=some (ag x,H,low):=rfl
theorem pt (c a b:ai):b3 call ag H low (.pick c a b)=(pR (ag c)).map fun t=>(if t then ag a else ag b,H,low):=rfl
theorem r9 (z:List V):b3 call ag H low (.alloc z)=some (.ptr H.length 0,H++[.cells z],low):=rfl
theorem vZ (x:ai):b3 call ag H low (.box x)=if bM (aE (ag x))then some (.ptr H.length 0,H++[.cells (aE (ag x))],low)else none:=rfl
theorem nY (sh:Option Nat)(x:ai):b3 call ag H low (.load sh x)=(jR H sh (ag x)).map fun v=>(v,H,low):=rfl
theorem lW (n:Nat)(a x:ai):b3 call ag H low (.store n a x)=(jw H n (ag a) (ag x)).map fun(H',l)=>(.undef,H',min low l):=rfl
theorem nf (op:BinOp)(x y:ai):b3 call ag H low (.bin op x y)=(eg op (ag x) (ag y)).map fun v=>(v,H,low):=rfl
theorem qh (op:UnOp)(x:ai):b3 call ag H low (.un op x)=(pS op (ag x)).map fun v=>(v,H,low):=rfl
theorem qV (k:Nat)(neg:Bool)(x y:ai):b3 call ag H low (.rF k neg x y)=(qD k (ag x) (ag y)).map fun e=>(.bool (if neg then !e else e),H,low):=rfl
theorem O3 (i:Nat)(a b:List ai):b3 call ag H low (.ua i a b)=some (.fn i (a.map ag) (b.map ag),H,low):=rfl
theorem O4:b3 call ag H low .mkMap=some (.map H.length,H++[.map []],low):=rfl
theorem sa (x:ai)(i:Nat):b3 call ag H low (.extract x i)=match ag x with
 | .aU vs=>(vs[i]?).map fun v=>(v,H,low)
 | _=>none:=rfl
theorem ajH (off:Nat)(sh:Option Nat)(x:ai):b3 call ag H low (.field off sh x)=match ag x with
 | .agg vs=>(iw vs off sh).map fun v=>(v,H,low)
 | _=>none:=rfl
theorem nZ (off:Nat)(x:ai):b3 call ag H low (.fieldAddr off x)=match ag x with
 | .ptr l o=>some (.ptr l (o+off),H,low)
 | .gW l es i f tag=>some (.gW l es i (f+off) tag,H,low)
 | .dH vs f=>some (.dH vs (f+off),H,low)
 | _=>none:=rfl
theorem qi (f:ai)(args:List ai):b3 call ag H low (.call false f args)=match eV H low (args.map ag)with
 |some (vs,H',low')=>match call (ag f) vs H' with
  |some (v,HX,l)=>if flat v=true/\H'.length<=l then some (v,H,low)else some (v,HX,min low' l)
  |none=>none
 |none=>none:=rfl
theorem ng (f:ai)(args:List ai):b3 call ag H low (.call true f args)=match call (ag f) (args.map ag) H with
 |some (v,H',l)=>some (v,H',min low l)
 |none=>none:=rfl
theorem n0 (es bytes:Nat)(a b:ai):b3 call ag H low (.append es bytes a b)=step ag H low (.append es bytes a b):=rfl
theorem I6 (es:Nat)(z:List V)(n:Nat)(ps:List (Nat × ai))(ju:Bool):b3 call ag H low (.lit es z n ps ju)=step ag H low (.lit es z n ps ju):=rfl
theorem O5 (es:Nat)(z:List V)(b:Nat)(l c:ai):b3 call ag H low (.mkSlice es z b l c)=step ag H low (.mkSlice es z b l c):=rfl
theorem Cm (es:Nat)(x:ai)(lo hi mx:Option ai):b3 call ag H low (.sI es x lo hi mx)=step ag H low (.sI es x lo hi mx):=rfl
theorem E5 (k:Nat)(z:V)(x i:ai)(ok:Bool):b3 call ag H low (.lookup k z x i ok)=step ag H low (.lookup k z x i ok):=rfl
theorem O6 (k:Nat)(m x v:ai):b3 call ag H low (.pQ k m x v)=step ag H low (.pQ k m x v):=rfl
theorem V9 (m:Bool)(x y:ai):b3 call ag H low (.u6 m x y)=step ag H low (.u6 m x y):=rfl
theorem Wa{x:ai}(es:Nat)(h:zF es (ag x)=true):b3 call ag H low (.len 1 x)=some (.int .i64 (el (ag x)).length,H,low):=by
 show step ag H low (.len 1 x)=_;cases hx:ag x<;>simp_all [zF,step,el]
theorem ajI{es:Nat}{x i:ai}(h:zF es (ag x)=true):b3 call ag H low (.indexAddr es x i)=match ku (ag i)with
  |some k=>((el (ag x))[k]?).map fun d=>(.dH (aE d) 0,H,low)
  |none=>none:=by
 show step ag H low (.indexAddr es x i)=_;cases hx:ag x<;>simp_all [zF,step,el]<;>cases ku (ag i)<;>rfl
end
@[simp] theorem azZ (k : IntKind) (n : Nat) : ku (.int k (n : Int)) = some n := by simp [ku]
@[simp] theorem lD (H : Heap) : ei H H H.length = false := by simp [ei]
theorem wrap_small{n:Int}(h1:-9223372036854775808<=n)(h2:n<9223372036854775808):IntKind.i64.wrap n=n:=by
 have e:(2^IntKind.i64.bits:Int)=18446744073709551616:=rfl;have e':(2^(IntKind.i64.bits-1):Int)=9223372036854775808:=rfl;have s:IntKind.i64.signed=true:=rfl;simp only[IntKind.wrap,e,e',s,fF,decide_eq_true_eq];split<;>omega
theorem gh (e:Env)(t ej:Nat)(v:V):bA (dw e t v) ej=if ej=t then v else bA e ej:=by
 induction e with
 |nil=>
  by_cases h:ej=t
  ·subst h;simp[dw,bA]
  ·simp[dw,bA,h,kS h]
 |cons p r ih=>
  obtain⟨k,u⟩:=p;simp only[dw];split
  ·rename_i hk
   subst hk;by_cases h:ej=k
   ·subst h;simp[bA]
   ·simp[bA,h,kS h]
  ·rename_i hk
   simp only[bA];split
   ·rename_i h
    rw[if_neg (by omega)]
   ·exact ih
def tj (b n i t blk ex:Nat)(body:cm):cm:=
 .seq (.region [⟨some (b,true),.bin .lss (.var i) (.var n),none⟩] none) (.seq (.cond (.var b) (.skip) (.exit ex)) (.seq (.block blk body)
  (.region [⟨some (t,false),.bin .add (.var i) (.const (.int .i64 1)),none⟩,⟨some (i,true),.mv (.tmp t),none⟩] none)))
theorem Wb{aa:Nat->Option bV}{b n i t blk ex:Nat}{body:cm}{I:Nat->av->Prop}{Q:X->av->Prop}{N:Nat}(jk:N<4611686018427387904)(UT:b≠i)(hex:ex≠blk)
  (bk:∀k st,I k st->bA st.au i=.int .i64 k/\bA st.au n=.int .i64 N/\st.low<=st.H.length)
  (round:∀k st,k<N->I k st->∃x st2,dq aa body {st with aC:=[],au:=dw st.au b (.bool true)}=some (x,st2)/\
    if x=.normal\/x=.exit blk then bA st2.au i=.int .i64 k/\st2.low<=st2.H.length/\I (k+1) {st2 with aC:=[],au:=dw st2.au i (.int .i64 ((k+1:Nat):Int))}else Q x st2)
  (done:∀st,I N st->Q (.exit ex) {st with aC:=[],au:=dw st.au b (.bool false)}):
  ∀j k st,k+j=N->I k st->∃x aV,dq aa (.loop (tj b n i t blk ex body)) st=some (x,aV)/\Q x aV:=by
 have aK:∀k st,I k st->dq aa (.region [⟨some (b,true),.bin .lss (.var i) (.var n),none⟩] none) st=some (.normal,{st with aC:=[],au:=dw st.au b (.bool (decide (k<N)))}):=fun k st h=>by
  obtain⟨h1,h2,ar⟩:=bk k st h;rw[kW];simp[cY,gu,nf,ai.ag,h1,h2,eg,av.put,qx ar]
 intro j
 induction j with
 |zero=>
  intro k st hk h;have:k=N:=by omega
  subst this;refine⟨.exit ex,_,?_,done st h⟩;rw[sN];simp only[tj];rw[iy,aK k st h];simp only[];rw[iy,mg];simp[ai.ag,gh,qF]
 |succ j ih=>
  intro k st hk h;obtain⟨x,st2,h1,h2⟩:=round k st (by omega) h
  have xM:∀r,dq aa (.seq (.block blk body) (.region [⟨some (t,false),.bin .add (.var i) (.const (.int .i64 1)),none⟩,⟨some (i,true),.mv (.tmp t),none⟩] none)) {st with aC:=[],au:=dw st.au b (.bool true)}=r->
    dq aa (tj b n i t blk ex body) st=r:=fun r hr=>by
   simp only[tj];rw[iy,aK k st h];simp only[];rw[iy,mg];have hd:decide (k<N)=true:=by simp;omega
   simp[ai.ag,gh,nD,hd,hr]
  by_cases hx:x=.normal\/x=.exit blk
  ·rw[if_pos hx]at h2
   obtain⟨h2,aR,ar⟩:=h2
   have hblk:dq aa (.block blk body) {st with aC:=[],au:=dw st.au b (.bool true)}=some (.normal,st2):=by
    rw[nF,h1];rcases hx with rfl|rfl
    ·rfl
    ·simp
   have ajJ:dq aa (.region [⟨some (t,false),.bin .add (.var i) (.const (.int .i64 1)),none⟩,⟨some (i,true),.mv (.tmp t),none⟩] none) st2=some (.normal,{st2 with aC:=[],au:=dw st2.au i (.int .i64 ((k+1:Nat):Int))}):=by
    have hw:IntKind.i64.wrap ((k:Int)+1)=((k+1:Nat):Int):=by rw[wrap_small]<;>omega
    rw[kW];simp[cY,gu,nf,qU,ai.ag,h2,eg,hw,av.put,bA,qx aR]
   have oL:=xM _ (by rw[iy,hblk]);simp only[ajJ]at oL;obtain⟨fJ,aV,h5,eo⟩:=ih (k+1) _ (by omega) ar;exact⟨fJ,aV,by rw[sN,oL];exact h5,eo⟩
  ·rw[if_neg hx]at h2
   have hblk:dq aa (.block blk body) {st with aC:=[],au:=dw st.au b (.bool true)}=some (x,st2):=by
    rw[nF,h1];cases x with
    |normal=>exact absurd (.inl rfl) hx
    |exit id=>
     have:id≠blk:=fun e=>hx (.inr (by rw[e]));simp[this]
    |ret=>rfl
   have oL:=xM (some (x,st2)) (by
    rw[iy,hblk];cases x with
    |normal=>exact absurd (.inl rfl) hx
    |exit id=>rfl
    |ret=>rfl)
   refine⟨x,st2,?_,h2⟩;rw[sN,oL];cases x with
   |normal=>exact absurd (.inl rfl) hx
   |exit id=>rfl
   |ret=>rfl
end Go.Abs
namespace Go.Abs
open Go
end Go.Abs
namespace Go.Abs.S
open Go Go.Abs
abbrev t0:ai:=.tmp 0
abbrev v0:ai:=.var 0
abbrev t1:ai:=.tmp 1
abbrev v1:ai:=.var 1
abbrev t2:ai:=.tmp 2
abbrev v2:ai:=.var 2
abbrev t3:ai:=.tmp 3
abbrev v3:ai:=.var 3
abbrev t4:ai:=.tmp 4
abbrev v4:ai:=.var 4
abbrev t5:ai:=.tmp 5
abbrev v5:ai:=.var 5
abbrev t6:ai:=.tmp 6
abbrev v6:ai:=.var 6
abbrev t7:ai:=.tmp 7
abbrev k7:ai:=.var 7
abbrev t8:ai:=.tmp 8
abbrev tk:ai:=.var 8
abbrev t9:ai:=.tmp 9
abbrev v9:ai:=.var 9
abbrev t10:ai:=.tmp 10
abbrev v10:ai:=.var 10
abbrev t11:ai:=.tmp 11
abbrev v11:ai:=.var 11
abbrev t12:ai:=.tmp 12
abbrev v12:ai:=.var 12
abbrev t13:ai:=.tmp 13
abbrev Wc:ai:=.var 13
abbrev t14:ai:=.tmp 14
abbrev t15:ai:=.tmp 15
abbrev ajK:ai:=.var 15
abbrev t16:ai:=.tmp 16
abbrev t17:ai:=.tmp 17
abbrev t18:ai:=.tmp 18
abbrev Wd:ai:=.var 18
abbrev t19:ai:=.tmp 19
abbrev t20:ai:=.tmp 20
abbrev v20:ai:=.var 20
abbrev t21:ai:=.tmp 21
abbrev t22:ai:=.tmp 22
abbrev v22:ai:=.var 22
abbrev t23:ai:=.tmp 23
abbrev v23:ai:=.var 23
abbrev t24:ai:=.tmp 24
abbrev t25:ai:=.tmp 25
abbrev v25:ai:=.var 25
abbrev t26:ai:=.tmp 26
abbrev v26:ai:=.var 26
abbrev t27:ai:=.tmp 27
abbrev We:ai:=.var 27
abbrev t28:ai:=.tmp 28
abbrev t29:ai:=.tmp 29
abbrev t30:ai:=.tmp 30
abbrev t31:ai:=.tmp 31
abbrev t32:ai:=.tmp 32
abbrev v32:ai:=.var 32
abbrev t33:ai:=.tmp 33
abbrev t34:ai:=.tmp 34
abbrev t35:ai:=.tmp 35
abbrev t36:ai:=.tmp 36
abbrev t37:ai:=.tmp 37
abbrev v37:ai:=.var 37
abbrev t38:ai:=.tmp 38
abbrev t39:ai:=.tmp 39
abbrev v39:ai:=.var 39
abbrev t40:ai:=.tmp 40
abbrev t41:ai:=.tmp 41
abbrev t42:ai:=.tmp 42
abbrev t43:ai:=.tmp 43
abbrev t44:ai:=.tmp 44
abbrev v44:ai:=.var 44
abbrev t45:ai:=.tmp 45
abbrev v45:ai:=.var 45
abbrev t46:ai:=.tmp 46
abbrev v46:ai:=.var 46
abbrev t47:ai:=.tmp 47
abbrev t48:ai:=.tmp 48
abbrev ajL:ai:=.var 48
abbrev t49:ai:=.tmp 49
abbrev t50:ai:=.tmp 50
abbrev v50:ai:=.var 50
abbrev t51:ai:=.tmp 51
abbrev t52:ai:=.tmp 52
abbrev t53:ai:=.tmp 53
abbrev v53:ai:=.var 53
abbrev t54:ai:=.tmp 54
abbrev t55:ai:=.tmp 55
abbrev v55:ai:=.var 55
abbrev t56:ai:=.tmp 56
abbrev t57:ai:=.tmp 57
abbrev t58:ai:=.tmp 58
abbrev t59:ai:=.tmp 59
abbrev t60:ai:=.tmp 60
abbrev t61:ai:=.tmp 61
abbrev t62:ai:=.tmp 62
abbrev t63:ai:=.tmp 63
abbrev t64:ai:=.tmp 64
abbrev t65:ai:=.tmp 65
abbrev t66:ai:=.tmp 66
abbrev v66:ai:=.var 66
abbrev t67:ai:=.tmp 67
abbrev t68:ai:=.tmp 68
abbrev t69:ai:=.tmp 69
abbrev t70:ai:=.tmp 70
abbrev v70:ai:=.var 70
abbrev t71:ai:=.tmp 71
abbrev t72:ai:=.tmp 72
abbrev v72:ai:=.var 72
abbrev t73:ai:=.tmp 73
abbrev t74:ai:=.tmp 74
abbrev t75:ai:=.tmp 75
abbrev t76:ai:=.tmp 76
abbrev v76:ai:=.var 76
abbrev t77:ai:=.tmp 77
abbrev v77:ai:=.var 77
abbrev t78:ai:=.tmp 78
abbrev t79:ai:=.tmp 79
abbrev t80:ai:=.tmp 80
abbrev t81:ai:=.tmp 81
abbrev t82:ai:=.tmp 82
abbrev t83:ai:=.tmp 83
abbrev t84:ai:=.tmp 84
abbrev t85:ai:=.tmp 85
abbrev t86:ai:=.tmp 86
abbrev t87:ai:=.tmp 87
abbrev t88:ai:=.tmp 88
abbrev t89:ai:=.tmp 89
abbrev t90:ai:=.tmp 90
abbrev t91:ai:=.tmp 91
abbrev t92:ai:=.tmp 92
abbrev t93:ai:=.tmp 93
abbrev t94:ai:=.tmp 94
abbrev t95:ai:=.tmp 95
abbrev t96:ai:=.tmp 96
abbrev t97:ai:=.tmp 97
abbrev t98:ai:=.tmp 98
abbrev ajM:ai:=.var 98
abbrev t100:ai:=.tmp 100
abbrev t101:ai:=.tmp 101
abbrev t102:ai:=.tmp 102
abbrev Wf:ai:=.var 103
abbrev v105:ai:=.var 105
abbrev t107:ai:=.tmp 107
abbrev t108:ai:=.tmp 108
abbrev t109:ai:=.tmp 109
abbrev t110:ai:=.tmp 110
abbrev t111:ai:=.tmp 111
abbrev t113:ai:=.tmp 113
abbrev t114:ai:=.tmp 114
abbrev t115:ai:=.tmp 115
abbrev t121:ai:=.tmp 121
abbrev ajN:ai:=.var 122
abbrev t123:ai:=.tmp 123
abbrev t124:ai:=.tmp 124
abbrev t125:ai:=.tmp 125
abbrev t126:ai:=.tmp 126
abbrev t127:ai:=.tmp 127
abbrev v127:ai:=.var 127
abbrev t128:ai:=.tmp 128
abbrev t129:ai:=.tmp 129
abbrev v130:ai:=.var 130
abbrev t131:ai:=.tmp 131
abbrev t132:ai:=.tmp 132
abbrev t134:ai:=.tmp 134
abbrev t135:ai:=.tmp 135
abbrev t136:ai:=.tmp 136
abbrev t138:ai:=.tmp 138
abbrev t153:ai:=.tmp 153
abbrev t154:ai:=.tmp 154
abbrev t155:ai:=.tmp 155
abbrev t157:ai:=.tmp 157
abbrev t158:ai:=.tmp 158
abbrev t159:ai:=.tmp 159
abbrev c (n:Int):ai:=.const (.int .i64 n)
abbrev cs (l:List UInt8):ai:=.const (.str l)
abbrev kk:ai:=.const (.bool true)
abbrev k8:ai:=.const (.bool false)
abbrev qj:ai:=.const .bX
abbrev fn (i:Nat):ai:=.func i
def r (n:Nat)(o:cN):bI:=⟨some (n,false),o,none⟩
def o (n:Nat)(p:cN):bI:=⟨some (n,true),p,none⟩
def n (o:cN):bI:=⟨none,o,none⟩
def rg (n:Nat)(x:ai)(w:Bool)(o:cN):bI:=⟨some (n,false),o,some (x,w)⟩
def m (x:ai):cN:=.mv x
def ch (x:ai):cN:=.load none x
def ls (k:Nat)(x:ai):cN:=.load (some k) x
def st (k:Nat)(a x:ai):cN:=.store k a x
def dZ (k:Nat)(x:ai):cN:=.fieldAddr k x
def lE (k:Nat)(x i:ai):cN:=.indexAddr k x i
def fs (k n:Nat)(x:ai):cN:=.field k (some n) x
def ex (x:ai)(i:Nat):cN:=.extract x i
def ic (k:Nat)(x:ai):cN:=.len k x
def eq (x y:ai):cN:=.bin .eql x y
def ne (x y:ai):cN:=.bin .neq x y
def lt (x y:ai):cN:=.bin .lss x y
def gt (x y:ai):cN:=.bin .gtr x y
def le (x y:ai):cN:=.bin .leq x y
def c4 (x y:ai):cN:=.bin .add x y
def no (x:ai):cN:=.un .not x
def j3 (x y z:ai):cN:=.pick x y z
def jX (f:ai)(l:List ai):cN:=.call false f l
def ap (e b:Nat)(x y:ai):cN:=.append e b x y
def kg (x:ai):cN:=.box x
def q (a b:cm):cm:=.seq a b
def R (l:List bI):cm:=.region l none
def tl (l:List bI)(b:List Nat):cm:=.region l (some b)
def jF (x:ai)(a b:cm):cm:=.cond x a b
def cX (i:Nat)(a:cm):cm:=.block i a
def k:cm:=.skip
def e (i:Nat):cm:=.exit i
def rt:cm:=.ret
abbrev nl:V:=.bX
abbrev z:V:=.int .i64 0
abbrev nJ:V:=.str []
abbrev em:V:=.emp
end Go.Abs.S
set_option maxRecDepth 100000
namespace Go.Abs.bs
open Go Go.Abs Go.Proofs Go.Abs.S
noncomputable section
def hY:Code->Code| .seq a _=>a|c=>c
def e7:Code->Code| .seq _ a=>a|c=>c
def ajO:cm:=q (R [r 14 (lE 2 v10 v12),r 15 (ls 2 t14),o 5 (.alloc [z,z]),n (st 2 v5 t15)]) (R [r 16 (m v3),r 17 (dZ 0 v5),r 18 (ch t17),r 19 (.lookup 0 (.int .i64 0) t16 t18 false),r 20 (dZ 1 v5),r 21 (ch t20),r 22 (c4 t19 t21),n (.pQ 0 t16 t18 t22)])
def Wg:lV:=⟨[R [o 2 (m qj)],R [r 9 (.mkMap),o 3 (m t9)],q (R [o 10 (m v0),o 11 (ic 1 v10),o 12 (m (c 0))]) (cX 0 (.loop (tj 13 11 12 23 1 0 ajO))),R [o 6 (m qj)]],⟨[r 24 (m v3)],t24,25,(26,false),[o 27 (ex t26 0)],We,3,(28,false),[r 29 (ex t28 0),r 30 (ex t28 1),o 7 (m t29),o 8 (m t30)],q (R [r 31 (m tk),o 32 (ne t31 (c 0))]) (jF v32 (R [r 33 (m v6),r 34 (m k7),r 35 (m tk),r 36 (.build [z,z] [(0,1,t34),(1,1,t35)]),r 37 (.lit 2 [z,z] 1 [(0,t36)] true),r 38 (ap 2 16 t33 t37),o 6 (m t38)]) k)⟩,q (R [r 39 (m v6),r 40 (.call true (fn 93) [t39,(fn 94)])]) (q (R [r 41 (m v6),o 2 (m t41)]) rt),[.tmp 2]⟩
def sb:Code:=Tryz.f47.body.getD .skip
theorem ajP (g:Nat->Option Obj):Ch (A g) Tryz.f47 Wg:=⟨[hY sb,hY (e7 sb),hY (e7 (e7 sb)),hY (e7 (e7 (e7 sb)))],hY (e7 (e7 (e7 (e7 sb)))),e7 (e7 (e7 (e7 (e7 sb)))),by kernel_rfl,by kernel_rfl,by kernel_rfl,by kernel_rfl,by kernel_rfl,by kernel_rfl⟩
variable (g:Nat->Option Obj)
theorem ajQ:Wg.jz (bD (iE g) 120) 120 Tryz.f47.ntmps TN:=⟨⟨by kernel_rfl,by kernel_rfl,by kernel_rfl⟩,⟨by kernel_rfl,by kernel_rfl,by kernel_rfl⟩,⟨by kernel_rfl,by kernel_rfl,by kernel_rfl⟩,⟨by kernel_rfl,by kernel_rfl,by kernel_rfl⟩,⟨by kernel_rfl,by kernel_rfl,by kernel_rfl⟩,⟨by kernel_rfl,by kernel_rfl,by kernel_rfl⟩,⟨by kernel_rfl,by kernel_rfl,by kernel_rfl⟩,trivial⟩
def hI:Nat->Option bV:=over (iE g) 47 (jy TN)
end
end Go.Abs.bs
