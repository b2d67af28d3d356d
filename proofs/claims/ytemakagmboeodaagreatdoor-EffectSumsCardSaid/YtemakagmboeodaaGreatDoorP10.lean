/- Texts of this claim, joined and written short by a program. -/
import Derived.Test.YtemakagmboeodaaGreatDoorP01
import Derived.Test.YtemakagmboeodaaGreatDoorP09
import Derived.Test.YtemakagmboeodaaGreatDoorP00
set_option linter.unusedVariables false
set_option linter.unusedSimpArgs false
set_option linter.unusedSectionVars false
namespace Go.Abs
open Go
def el:V->List V
 | .list _ ds=>ds
 | _=>[]
section
variable{call:cj}{ag:ah->V}{H:Heap}{low:Nat}
theorem Ml (x:ah):bK call ag H low (.mv x)=some (ag x,H,low):=rfl
theorem F5 (c a b:ah):bK call ag H low (.pick c a b)=(z8 (ag c)).map fun t=>(if t then ag a else ag b,H,low):=rfl
theorem Mm (z:List V):bK call ag H low (.alloc z)=some (.ptr H.length 0,H++[.cells z],low):=rfl
theorem Mn (x:ah):bK call ag H low (.box x)=if b7 (aL (ag x))then some (.ptr H.length 0,H++[.cells (aL (ag x))],low)else none:=rfl
theorem Be (sh:Option Nat)(x:ah):bK call ag H low (.load sh x)=(na H sh (ag x)).map fun v=>(v,H,low):=rfl
theorem F6 (n:Nat)(a x:ah):bK call ag H low (.store n a x)=(p6 H n (ag a) (ag x)).map fun(H',l)=>(.undef,H',min low l):=rfl
theorem yJ (op:BinOp)(x y:ah):bK call ag H low (.bin op x y)=(gl op (ag x) (ag y)).map fun v=>(v,H,low):=rfl
theorem Bf (op:UnOp)(x:ah):bK call ag H low (.un op x)=(Aa op (ag x)).map fun v=>(v,H,low):=rfl
theorem F7 (k:Nat)(neg:Bool)(x y:ah):bK call ag H low (.mY k neg x y)=(mq k (ag x) (ag y)).map fun e=>(.bool (if neg then !e else e),H,low):=rfl
theorem Zb (i:Nat)(a b:List ah):bK call ag H low (.sR i a b)=some (.fn i (a.map ag) (b.map ag),H,low):=rfl
theorem Mo:bK call ag H low .mkMap=some (.map H.length,H++[.map []],low):=rfl
theorem Mp (x:ah)(i:Nat):bK call ag H low (.extract x i)=match ag x with
 | .aR vs=>(vs[i]?).map fun v=>(v,H,low)
 | _=>none:=rfl
theorem Zc (off:Nat)(sh:Option Nat)(x:ah):bK call ag H low (.field off sh x)=match ag x with
 | .agg vs=>(kF vs off sh).map fun v=>(v,H,low)
 | _=>none:=rfl
theorem Bg (off:Nat)(x:ah):bK call ag H low (.fieldAddr off x)=match ag x with
 | .ptr l o=>some (.ptr l (o+off),H,low)
 | .fm l es i f tag=>some (.fm l es i (f+off) tag,H,low)
 | .dp vs f=>some (.dp vs (f+off),H,low)
 | _=>none:=rfl
theorem Bh (f:ah)(args:List ah):bK call ag H low (.call false f args)=match eL H low (args.map ag)with
 |some (vs,H',low')=>match call (ag f) vs H' with
  |some (v,Dh,l)=>if flat v=true/\H'.length<=l then some (v,H,low)else some (v,Dh,min low' l)
  |none=>none
 |none=>none:=rfl
theorem qG (f:ah)(args:List ah):bK call ag H low (.call true f args)=match call (ag f) (args.map ag) H with
 |some (v,H',l)=>some (v,H',min low l)
 |none=>none:=rfl
theorem kx (es bytes:Nat)(a b:ah):bK call ag H low (.append es bytes a b)=step ag H low (.append es bytes a b):=rfl
theorem Bi (es:Nat)(z:List V)(n:Nat)(ps:List (Nat × ah))(gQ:Bool):bK call ag H low (.lit es z n ps gQ)=step ag H low (.lit es z n ps gQ):=rfl
theorem Mq (es:Nat)(z:List V)(b:Nat)(l c:ah):bK call ag H low (.mkSlice es z b l c)=step ag H low (.mkSlice es z b l c):=rfl
theorem yK (es:Nat)(x:ah)(cS hi mx:Option ah):bK call ag H low (.pZ es x cS hi mx)=step ag H low (.pZ es x cS hi mx):=rfl
theorem F8 (k:Nat)(z:V)(x i:ah)(ok:Bool):bK call ag H low (.lookup k z x i ok)=step ag H low (.lookup k z x i ok):=rfl
theorem Mr (k:Nat)(m x v:ah):bK call ag H low (.mZ k m x v)=step ag H low (.mZ k m x v):=rfl
theorem Ms (m:Bool)(x y:ah):bK call ag H low (.p3 m x y)=step ag H low (.p3 m x y):=rfl
end
@[simp] theorem aiD (k : IntKind) (n : Nat) : k8 (.int k (n : Int)) = some n := by simp [k8]
@[simp] theorem r5 (H : Heap) : ec H H H.length = false := by simp [ec]
theorem wrap_small{n:Int}(h1:-9223372036854775808<=n)(h2:n<9223372036854775808):IntKind.i64.wrap n=n:=by
 have e:(2^IntKind.i64.bits:Int)=18446744073709551616:=rfl;have e':(2^(IntKind.i64.bits-1):Int)=9223372036854775808:=rfl;have s:IntKind.i64.signed=true:=rfl;simp only[IntKind.wrap,e,e',s,Df,decide_eq_true_eq];split<;>omega
theorem Bj (e:Env)(t dr:Nat)(v:V):cJ (dq e t v) dr=if dr=t then v else cJ e dr:=by
 induction e with
 |nil=>
  by_cases h:dr=t
  ·subst h;simp[dq,cJ]
  ·simp[dq,cJ,h,jn h]
 |cons p r ih=>
  obtain⟨k,u⟩:=p;simp only[dq];split
  ·rename_i hk
   subst hk;by_cases h:dr=k
   ·subst h;simp[cJ]
   ·simp[cJ,h,jn h]
  ·rename_i hk
   simp only[cJ];split
   ·rename_i h
    rw[if_neg (by omega)]
   ·exact ih
def uh (b n i t cL ex:Nat)(body:bP):bP:=
 .seq (.region [⟨some (b,true),.bin .lss (.var i) (.var n),none⟩] none) (.seq (.cond (.var b) (.skip) (.exit ex)) (.seq (.block cL body)
  (.region [⟨some (t,false),.bin .add (.var i) (.const (.int .i64 1)),none⟩,⟨some (i,true),.mv (.tmp t),none⟩] none)))
theorem Zd{ab:Nat->Option bQ}{b n i t cL ex:Nat}{body:bP}{I:Nat->au->Prop}{Q:X->au->Prop}{N:Nat}(gZ:N<4611686018427387904)(KS:b≠i)(hex:ex≠cL)
  (ch:∀k st,I k st->cJ st.ax i=.int .i64 k/\cJ st.ax n=.int .i64 N/\st.low<=st.H.length)
  (round:∀k st,k<N->I k st->∃x st2,dt ab body {st with aH:=[],ax:=dq st.ax b (.bool true)}=some (x,st2)/\
    if x=.normal\/x=.exit cL then cJ st2.ax i=.int .i64 k/\st2.low<=st2.H.length/\I (k+1) {st2 with aH:=[],ax:=dq st2.ax i (.int .i64 ((k+1:Nat):Int))}else Q x st2)
  (done:∀st,I N st->Q (.exit ex) {st with aH:=[],ax:=dq st.ax b (.bool false)}):
  ∀j k st,k+j=N->I k st->∃x aV,dt ab (.loop (uh b n i t cL ex body)) st=some (x,aV)/\Q x aV:=by
 have aY:∀k st,I k st->dt ab (.region [⟨some (b,true),.bin .lss (.var i) (.var n),none⟩] none) st=some (.normal,{st with aH:=[],ax:=dq st.ax b (.bool (decide (k<N)))}):=fun k st h=>by
  obtain⟨h1,h2,aq⟩:=ch k st h;rw[od];simp[cX,hU,yJ,ah.ag,h1,h2,gl,au.put,rb aq]
 intro j
 induction j with
 |zero=>
  intro k st hk h;have:k=N:=by omega
  subst this;refine⟨.exit ex,_,?_,done st h⟩;rw[vk];simp only[uh];rw[kI,aY k st h];simp only[];rw[kI,qa];simp[ah.ag,Bj,Dp]
 |succ j ih=>
  intro k st hk h;obtain⟨x,st2,h1,h2⟩:=round k st (by omega) h
  have r4:∀r,dt ab (.seq (.block cL body) (.region [⟨some (t,false),.bin .add (.var i) (.const (.int .i64 1)),none⟩,⟨some (i,true),.mv (.tmp t),none⟩] none)) {st with aH:=[],ax:=dq st.ax b (.bool true)}=r->
    dt ab (uh b n i t cL ex body) st=r:=fun r hr=>by
   simp only[uh];rw[kI,aY k st h];simp only[];rw[kI,qa];have hd:decide (k<N)=true:=by simp;omega
   simp[ah.ag,Bj,s5,hd,hr]
  by_cases hx:x=.normal\/x=.exit cL
  ·rw[if_pos hx]at h2
   obtain⟨h2,bf,aq⟩:=h2
   have hblk:dt ab (.block cL body) {st with aH:=[],ax:=dq st.ax b (.bool true)}=some (.normal,st2):=by
    rw[s6,h1];rcases hx with rfl|rfl
    ·rfl
    ·simp
   have Ze:dt ab (.region [⟨some (t,false),.bin .add (.var i) (.const (.int .i64 1)),none⟩,⟨some (i,true),.mv (.tmp t),none⟩] none) st2=some (.normal,{st2 with aH:=[],ax:=dq st2.ax i (.int .i64 ((k+1:Nat):Int))}):=by
    have hw:IntKind.i64.wrap ((k:Int)+1)=((k+1:Nat):Int):=by rw[wrap_small]<;>omega
    rw[od];simp[cX,hU,yJ,Ml,ah.ag,h2,gl,hw,au.put,cJ,rb bf]
   have nJ:=r4 _ (by rw[kI,hblk]);simp only[Ze]at nJ;obtain⟨fA,aV,fe,fj⟩:=ih (k+1) _ (by omega) aq;exact⟨fA,aV,by rw[vk,nJ];exact fe,fj⟩
  ·rw[if_neg hx]at h2
   have hblk:dt ab (.block cL body) {st with aH:=[],ax:=dq st.ax b (.bool true)}=some (x,st2):=by
    rw[s6,h1];cases x with
    |normal=>exact absurd (.inl rfl) hx
    |exit id=>
     have:id≠cL:=fun e=>hx (.inr (by rw[e]));simp[this]
    |ret=>rfl
   have nJ:=r4 (some (x,st2)) (by
    rw[kI,hblk];cases x with
    |normal=>exact absurd (.inl rfl) hx
    |exit id=>rfl
    |ret=>rfl)
   refine⟨x,st2,?_,h2⟩;rw[vk,nJ];cases x with
   |normal=>exact absurd (.inl rfl) hx
   |exit id=>rfl
   |ret=>rfl
end Go.Abs
namespace Go.Abs
open Go
end Go.Abs
namespace Go.Abs.S
open Go Go.Abs
abbrev t0:ah:=.tmp 0
abbrev v0:ah:=.var 0
abbrev t1:ah:=.tmp 1
abbrev v1:ah:=.var 1
abbrev t2:ah:=.tmp 2
abbrev v2:ah:=.var 2
abbrev t3:ah:=.tmp 3
abbrev v3:ah:=.var 3
abbrev t4:ah:=.tmp 4
abbrev v4:ah:=.var 4
abbrev t5:ah:=.tmp 5
abbrev v5:ah:=.var 5
abbrev t6:ah:=.tmp 6
abbrev v6:ah:=.var 6
abbrev t7:ah:=.tmp 7
abbrev Mt:ah:=.var 7
abbrev t8:ah:=.tmp 8
abbrev yL:ah:=.var 8
abbrev t9:ah:=.tmp 9
abbrev v9:ah:=.var 9
abbrev t10:ah:=.tmp 10
abbrev v10:ah:=.var 10
abbrev t11:ah:=.tmp 11
abbrev t12:ah:=.tmp 12
abbrev v12:ah:=.var 12
abbrev t14:ah:=.tmp 14
abbrev r6:ah:=.var 14
abbrev t15:ah:=.tmp 15
abbrev t16:ah:=.tmp 16
abbrev Mu:ah:=.var 16
abbrev t17:ah:=.tmp 17
abbrev t18:ah:=.tmp 18
abbrev t19:ah:=.tmp 19
abbrev t20:ah:=.tmp 20
abbrev t21:ah:=.tmp 21
abbrev t22:ah:=.tmp 22
abbrev v22:ah:=.var 22
abbrev t23:ah:=.tmp 23
abbrev t24:ah:=.tmp 24
abbrev t25:ah:=.tmp 25
abbrev v25:ah:=.var 25
abbrev t26:ah:=.tmp 26
abbrev t27:ah:=.tmp 27
abbrev Mv:ah:=.var 27
abbrev t28:ah:=.tmp 28
abbrev t29:ah:=.tmp 29
abbrev Zf:ah:=.var 29
abbrev t30:ah:=.tmp 30
abbrev t31:ah:=.tmp 31
abbrev t32:ah:=.tmp 32
abbrev v32:ah:=.var 32
abbrev t33:ah:=.tmp 33
abbrev t34:ah:=.tmp 34
abbrev t35:ah:=.tmp 35
abbrev t36:ah:=.tmp 36
abbrev t37:ah:=.tmp 37
abbrev t38:ah:=.tmp 38
abbrev t39:ah:=.tmp 39
abbrev v39:ah:=.var 39
abbrev t40:ah:=.tmp 40
abbrev t41:ah:=.tmp 41
abbrev t42:ah:=.tmp 42
abbrev t43:ah:=.tmp 43
abbrev t44:ah:=.tmp 44
abbrev t45:ah:=.tmp 45
abbrev v45:ah:=.var 45
abbrev t46:ah:=.tmp 46
abbrev v46:ah:=.var 46
abbrev t47:ah:=.tmp 47
abbrev t48:ah:=.tmp 48
abbrev t49:ah:=.tmp 49
abbrev t50:ah:=.tmp 50
abbrev v50:ah:=.var 50
abbrev t51:ah:=.tmp 51
abbrev t52:ah:=.tmp 52
abbrev t53:ah:=.tmp 53
abbrev v53:ah:=.var 53
abbrev t54:ah:=.tmp 54
abbrev t55:ah:=.tmp 55
abbrev v55:ah:=.var 55
abbrev t56:ah:=.tmp 56
abbrev t57:ah:=.tmp 57
abbrev t58:ah:=.tmp 58
abbrev t59:ah:=.tmp 59
abbrev t60:ah:=.tmp 60
abbrev t61:ah:=.tmp 61
abbrev t62:ah:=.tmp 62
abbrev t63:ah:=.tmp 63
abbrev t65:ah:=.tmp 65
abbrev t66:ah:=.tmp 66
abbrev v66:ah:=.var 66
abbrev t67:ah:=.tmp 67
abbrev t68:ah:=.tmp 68
abbrev t69:ah:=.tmp 69
abbrev t70:ah:=.tmp 70
abbrev v70:ah:=.var 70
abbrev t71:ah:=.tmp 71
abbrev t72:ah:=.tmp 72
abbrev t73:ah:=.tmp 73
abbrev t74:ah:=.tmp 74
abbrev t75:ah:=.tmp 75
abbrev t76:ah:=.tmp 76
abbrev v76:ah:=.var 76
abbrev t77:ah:=.tmp 77
abbrev v77:ah:=.var 77
abbrev t78:ah:=.tmp 78
abbrev t80:ah:=.tmp 80
abbrev Zg:ah:=.var 81
abbrev t82:ah:=.tmp 82
abbrev t83:ah:=.tmp 83
abbrev t84:ah:=.tmp 84
abbrev t85:ah:=.tmp 85
abbrev t86:ah:=.tmp 86
abbrev t87:ah:=.tmp 87
abbrev t88:ah:=.tmp 88
abbrev t89:ah:=.tmp 89
abbrev t90:ah:=.tmp 90
abbrev t91:ah:=.tmp 91
abbrev t92:ah:=.tmp 92
abbrev t93:ah:=.tmp 93
abbrev t94:ah:=.tmp 94
abbrev t95:ah:=.tmp 95
abbrev t96:ah:=.tmp 96
abbrev t97:ah:=.tmp 97
abbrev t98:ah:=.tmp 98
abbrev t99:ah:=.tmp 99
abbrev t100:ah:=.tmp 100
abbrev t102:ah:=.tmp 102
abbrev t103:ah:=.tmp 103
abbrev t104:ah:=.tmp 104
abbrev t105:ah:=.tmp 105
abbrev c (n:Int):ah:=.const (.int .i64 n)
abbrev cs (l:List UInt8):ah:=.const (.str l)
abbrev Lh:ah:=.const (.bool true)
abbrev Zh:ah:=.const (.bool false)
abbrev wC:ah:=.const .ak
abbrev fn (i:Nat):ah:=.func i
def r (n:Nat)(o:b8):bl:=⟨some (n,false),o,none⟩
def o (n:Nat)(p:b8):bl:=⟨some (n,true),p,none⟩
def n (o:b8):bl:=⟨none,o,none⟩
def rg (n:Nat)(x:ah)(w:Bool)(o:b8):bl:=⟨some (n,false),o,some (x,w)⟩
def m (x:ah):b8:=.mv x
def dH (x:ah):b8:=.load none x
def ls (k:Nat)(x:ah):b8:=.load (some k) x
def st (k:Nat)(a x:ah):b8:=.store k a x
def je (k:Nat)(x:ah):b8:=.fieldAddr k x
def yM (k:Nat)(x i:ah):b8:=.indexAddr k x i
def fs (k n:Nat)(x:ah):b8:=.field k (some n) x
def ex (x:ah)(i:Nat):b8:=.extract x i
def Bk (k:Nat)(x:ah):b8:=.len k x
def eq (x y:ah):b8:=.bin .eql x y
def ne (x y:ah):b8:=.bin .neq x y
def lt (x y:ah):b8:=.bin .lss x y
def gt (x y:ah):b8:=.bin .gtr x y
def le (x y:ah):b8:=.bin .leq x y
def dd (x y:ah):b8:=.bin .add x y
def no (x:ah):b8:=.un .not x
def Zi (x y z:ah):b8:=.pick x y z
def pt (f:ah)(l:List ah):b8:=.call false f l
def ap (e b:Nat)(x y:ah):b8:=.append e b x y
def oi (x:ah):b8:=.box x
def ui (x:ah):b8:=.nilCheck x
def q (a b:bP):bP:=.seq a b
def R (l:List bl):bP:=.region l none
def wD (l:List bl)(b:List Nat):bP:=.region l (some b)
def yN (x:ah)(a b:bP):bP:=.cond x a b
def eS (i:Nat)(a:bP):bP:=.block i a
def k:bP:=.skip
def e (i:Nat):bP:=.exit i
def rt:bP:=.ret
abbrev nl:V:=.ak
abbrev z:V:=.int .i64 0
abbrev kj:V:=.str []
abbrev em:V:=.emp
end Go.Abs.S
set_option maxRecDepth 100000
namespace Go.Abs.cb
open Go Go.Abs Go.Proofs Go.Abs.S
noncomputable section
def jx:Code->Code| .seq a _=>a|c=>c
def cd:Code->Code| .seq _ a=>a|c=>c
def Zj:bP:=q (R [r 14 (yM 2 v10 v12),r 15 (ls 2 t14),o 5 (.alloc [z,z]),n (st 2 v5 t15)]) (R [r 16 (m v3),r 17 (je 0 v5),r 18 (dH t17),r 19 (.lookup 0 (.int .i64 0) t16 t18 false),r 20 (je 1 v5),r 21 (dH t20),r 22 (dd t19 t21),n (.mZ 0 t16 t18 t22)])
def Mw:iD:=⟨[R [o 2 (m wC)],R [r 9 (.mkMap),o 3 (m t9)],q (R [o 10 (m v0),o 11 (Bk 1 v10),o 12 (m (c 0))]) (eS 0 (.loop (uh 13 11 12 23 1 0 Zj))),R [o 6 (m wC)]],⟨[r 24 (m v3)],t24,25,(26,false),[o 27 (ex t26 0)],Mv,3,(28,false),[r 29 (ex t28 0),r 30 (ex t28 1),o 7 (m t29),o 8 (m t30)],q (R [r 31 (m yL),o 32 (ne t31 (c 0))]) (yN v32 (R [r 33 (m v6),r 34 (m Mt),r 35 (m yL),r 36 (.build [z,z] [(0,1,t34),(1,1,t35)]),r 37 (.lit 2 [z,z] 1 [(0,t36)] true),r 38 (ap 2 16 t33 t37),o 6 (m t38)]) k)⟩,q (R [r 39 (m v6),r 40 (.call true (fn 20) [t39,(fn 21)])]) (q (R [r 41 (m v6),o 2 (m t41)]) rt),[.tmp 2]⟩
def nM:Code:=Tryz.f8.body.getD .skip
theorem Zk (g:Nat->Option Obj):uf (C g) Tryz.f8 Mw:=⟨[jx nM,jx (cd nM),jx (cd (cd nM)),jx (cd (cd (cd nM)))],jx (cd (cd (cd (cd nM)))),cd (cd (cd (cd (cd nM)))),by kernel_rfl,by kernel_rfl,by kernel_rfl,by kernel_rfl,by kernel_rfl,by kernel_rfl⟩
def Bl:iD:=⟨[R [o 3 (oi v0),o 6 (.alloc [nl,nl,nl]),o 7 (m (c 0))],R [r 18 (ls 9 v3),r 19 (m v1),r 20 (m v2),r 21 (pt (fn 25) [t18,t19,t20]),r 17 (m t21),r 22 (ex t17 0),r 23 (ex t17 1),o 8 (m t22),o 9 (m t23)],q (R [r 24 (m v9),o 25 (ne t24 (c 0))]) (yN v25 (q (R [r 26 (.build [nl,nl,nl] []),r 27 (m v9),n (st 3 v6 t26),o 7 (m t27)]) rt) k),q (R [r 28 (m yL),o 29 (no t28)]) (yN Zf (q (R [r 30 (.build [nl,nl,nl] []),n (st 3 v6 t30),o 7 (m (c 9))]) rt) k),wD [r 32 (je 0 v3),r 33 (ls 5 t32),r 34 (je 8 v3),r 35 (dH t34),r 36 (m v1),r 37 (yM 4 t35 t36),r 38 (je 3 t37),r 39 (dH t38),r 40 (pt (fn 26) [t33,t39]),r 31 (m t40),r 41 (ex t31 0),r 42 (ex t31 1),o 10 (m t41),r 11 (m t42)] [0,1,0,4,0,28,60,124,255,511,1023,1023,2047,8191],R [r 44 (je 0 v3),r 45 (ls 5 t44),r 46 (m v10),r 47 (pt (fn 27) [t45,t46]),r 43 (m t47),r 48 (ex t43 0),r 49 (ex t43 1),o 12 (.alloc [z,kj,z,z,nl]),n (st 5 v12 t48),r 13 (m t49)],R [r 50 (ls 9 v3),r 51 (.mkMap),r 52 (.build [nl,nl,nl,z,kj,z,z,nl,nl,nl,nl,nl,nl,.hQ] [(3,9,t50),(13,1,t51)]),r 53 (oi t52),o 14 (m t53)],wD [r 54 (m r6),r 55 (je 4 v12),r 56 (dH t55),r 57 (yM 5 t56 (c 2)),r 58 (ls 5 t57),r 59 (ls 9 v3),r 60 (m v1),r 61 (pt (fn 30) [t59,t60]),r 62 (m v2),r 63 (pt (fn 29) [t61,t62]),r 64 (pt (fn 28) [t54,t58,t63])] [0,0,2,6,14,0,0,96,0,480,1023],R [r 65 (m r6),r 66 (m r6),r 67 (ui t66),r 68 (je 12 t67),r 69 (dH t68),r 70 (.lit 1 [nl] 1 [(0,t69)] true),r 71 (pt (fn 11) [t70]),r 72 (ui t65),r 73 (je 0 t72),r 74 (je 0 t73),n (st 1 t74 t71)]],⟨[r 75 (m r6),r 76 (ui t75),r 77 (je 13 t76),r 78 (dH t77)],t78,79,(80,false),[o 81 (ex t80 0)],Zg,1,(82,false),[r 83 (ex t82 1),o 16 (.alloc [z,z,z]),n (st 3 Mu t83)],wD [r 84 (m r6),r 85 (m r6),r 86 (ui t85),r 87 (je 0 t86),r 88 (je 2 t87),r 89 (dH t88),r 90 (ls 3 Mu),r 91 (.lit 3 [z,z,z] 1 [(0,t90)] true),r 92 (ap 3 24 t89 t91),r 93 (ui t84),r 94 (je 0 t93),r 95 (je 2 t94),n (st 1 t95 t92)] [0,0,2,6,14,30,0,64,254,511,1023,2047,4095]⟩,q (R [r 96 (m r6),r 97 (ui t96),r 98 (je 0 t97),r 99 (je 2 t98),r 100 (dH t99),r 101 (pt (fn 31) [t100,(fn 32)])]) (q (R [r 102 (m r6),r 103 (ui t102),r 104 (je 0 t103),r 105 (ls 3 t104),n (st 3 v6 t105),o 7 (m (c 0))]) rt),[.cell 6 (some 3),.tmp 7]⟩
def oF:Code:=Tryz.f17.body.getD .skip
theorem Zl (g:Nat->Option Obj):uf (C g) Tryz.f17 Bl:=⟨[jx oF,jx (cd oF),jx (cd (cd oF)),jx (cd (cd (cd oF))),jx (cd (cd (cd (cd oF)))),jx (cd (cd (cd (cd (cd oF))))),jx (cd (cd (cd (cd (cd (cd oF)))))),jx (cd (cd (cd (cd (cd (cd (cd oF))))))),jx (cd (cd (cd (cd (cd (cd (cd (cd oF))))))))],jx (cd (cd (cd (cd (cd (cd (cd (cd (cd oF))))))))),cd (cd (cd (cd (cd (cd (cd (cd (cd (cd oF))))))))),by kernel_rfl,by kernel_rfl,by kernel_rfl,by kernel_rfl,by kernel_rfl,by kernel_rfl⟩
variable (g:Nat->Option Obj)
theorem Zm:Mw.iS (aS (gq g) 200) 200 Tryz.f8.ntmps JH:=⟨⟨by kernel_rfl,by kernel_rfl,by kernel_rfl⟩,⟨⟨by kernel_rfl,by kernel_rfl,by kernel_rfl⟩,⟨⟨by kernel_rfl,by kernel_rfl,by kernel_rfl⟩,⟨⟨by kernel_rfl,by kernel_rfl,by kernel_rfl⟩,⟨⟨by kernel_rfl,by kernel_rfl,by kernel_rfl⟩,⟨⟨by kernel_rfl,by kernel_rfl,by kernel_rfl⟩,trivial⟩⟩⟩⟩⟩⟩
def er:Nat->Option bQ:=over (gq g) 8 (iR JH)
end
end Go.Abs.cb
set_option maxRecDepth 100000
namespace Go.Abs.cb
open Go Go.Abs Go.Proofs
noncomputable section
variable (g:Nat->Option Obj)
def Mx:List V:=[.str [59,32,114,101,108,97,116,105,111,110,32,114,40,97,58,32,115,41,59,32,99,111,117,110,116,101,114,32,99,40,97,58,32,115,41,32,105,110,32,48,46,46,57,59,32,111,112,101,114,97,116,105,111,110,32,111,40,112,58,32,115,41,32,123,32,105,110,115,101,114,116,32,114,40,112,41,59,32,102,111,114,32,120,58,32,115,32,119,104,101,114,101,32,120,32,33,61,32,112,32,123,32,97,100,100,32,50,32,116,111,32,99,40,120,41,59,32,125,32,104,111,108,100,32,99,40,48,41,32,45,32,50,32,42,32,99,40,112,41,32,62,61,32,49,59,32,125]]
def My:V:=J 1
theorem Zn:aS (er g) 200 (.fn 231 [] []) Mx []=some (My,[],0):=by kernel_rfl
def Mz:List V:=[.str [40,97,58,32,115,41,59,32,99,111,117,110,116,101,114,32,99,40,97,58,32,115,41,32,105,110,32,48,46,46,57,59,32,111,112,101,114,97,116,105,111,110,32,111,40,112,58,32,115,41,32,123,32,105,110,115,101,114,116,32,114,40,112,41,59,32,102,111,114,32,120,58,32,115,32,119,104,101,114,101,32,120,32,33,61,32,112,32,123,32,97,100,100,32,50,32,116,111,32,99,40,120,41,59,32,125,32,104,111,108,100,32,99,40,48,41,32,45,32,50,32,42,32,99,40,112,41,32,62,61,32,49,59,32,125]]
def MA:V:=J 1
theorem Zo:aS (er g) 200 (.fn 231 [] []) Mz []=some (MA,[],0):=by kernel_rfl
def MB:List V:=[.str [58,32,115,41,59,32,99,111,117,110,116,101,114,32,99,40,97,58,32,115,41,32,105,110,32,48,46,46,57,59,32,111,112,101,114,97,116,105,111,110,32,111,40,112,58,32,115,41,32,123,32,105,110,115,101,114,116,32,114,40,112,41,59,32,102,111,114,32,120,58,32,115,32,119,104,101,114,101,32,120,32,33,61,32,112,32,123,32,97,100,100,32,50,32,116,111,32,99,40,120,41,59,32,125,32,104,111,108,100,32,99,40,48,41,32,45,32,50,32,42,32,99,40,112,41,32,62,61,32,49,59,32,125]]
def MC:V:=J 1
theorem Zp:aS (er g) 200 (.fn 231 [] []) MB []=some (MC,[],0):=by kernel_rfl
def MD:List V:=[.str [41,59,32,99,111,117,110,116,101,114,32,99,40,97,58,32,115,41,32,105,110,32,48,46,46,57,59,32,111,112,101,114,97,116,105,111,110,32,111,40,112,58,32,115,41,32,123,32,105,110,115,101,114,116,32,114,40,112,41,59,32,102,111,114,32,120,58,32,115,32,119,104,101,114,101,32,120,32,33,61,32,112,32,123,32,97,100,100,32,50,32,116,111,32,99,40,120,41,59,32,125,32,104,111,108,100,32,99,40,48,41,32,45,32,50,32,42,32,99,40,112,41,32,62,61,32,49,59,32,125]]
def ME:V:=J 1
theorem Zq:aS (er g) 200 (.fn 231 [] []) MD []=some (ME,[],0):=by kernel_rfl
def MF:List V:=[.str [59,32,99,111,117,110,116,101,114,32,99,40,97,58,32,115,41,32,105,110,32,48,46,46,57,59,32,111,112,101,114,97,116,105,111,110,32,111,40,112,58,32,115,41,32,123,32,105,110,115,101,114,116,32,114,40,112,41,59,32,102,111,114,32,120,58,32,115,32,119,104,101,114,101,32,120,32,33,61,32,112,32,123,32,97,100,100,32,50,32,116,111,32,99,40,120,41,59,32,125,32,104,111,108,100,32,99,40,48,41,32,45,32,50,32,42,32,99,40,112,41,32,62,61,32,49,59,32,125]]
def MG:V:=J 1
theorem Zr:aS (er g) 200 (.fn 231 [] []) MF []=some (MG,[],0):=by kernel_rfl
def MH:List V:=[.str [40,97,58,32,115,41,32,105,110,32,48,46,46,57,59,32,111,112,101,114,97,116,105,111,110,32,111,40,112,58,32,115,41,32,123,32,105,110,115,101,114,116,32,114,40,112,41,59,32,102,111,114,32,120,58,32,115,32,119,104,101,114,101,32,120,32,33,61,32,112,32,123,32,97,100,100,32,50,32,116,111,32,99,40,120,41,59,32,125,32,104,111,108,100,32,99,40,48,41,32,45,32,50,32,42,32,99,40,112,41,32,62,61,32,49,59,32,125]]
def MI:V:=J 1
theorem Zs:aS (er g) 200 (.fn 231 [] []) MH []=some (MI,[],0):=by kernel_rfl
def MJ:List V:=[.str [58,32,115,41,32,105,110,32,48,46,46,57,59,32,111,112,101,114,97,116,105,111,110,32,111,40,112,58,32,115,41,32,123,32,105,110,115,101,114,116,32,114,40,112,41,59,32,102,111,114,32,120,58,32,115,32,119,104,101,114,101,32,120,32,33,61,32,112,32,123,32,97,100,100,32,50,32,116,111,32,99,40,120,41,59,32,125,32,104,111,108,100,32,99,40,48,41,32,45,32,50,32,42,32,99,40,112,41,32,62,61,32,49,59,32,125]]
def MK:V:=J 1
theorem Zt:aS (er g) 200 (.fn 231 [] []) MJ []=some (MK,[],0):=by kernel_rfl
def ML:List V:=[.str [41,32,105,110,32,48,46,46,57,59,32,111,112,101,114,97,116,105,111,110,32,111,40,112,58,32,115,41,32,123,32,105,110,115,101,114,116,32,114,40,112,41,59,32,102,111,114,32,120,58,32,115,32,119,104,101,114,101,32,120,32,33,61,32,112,32,123,32,97,100,100,32,50,32,116,111,32,99,40,120,41,59,32,125,32,104,111,108,100,32,99,40,48,41,32,45,32,50,32,42,32,99,40,112,41,32,62,61,32,49,59,32,125]]
def MM:V:=J 1
theorem Zu:aS (er g) 200 (.fn 231 [] []) ML []=some (MM,[],0):=by kernel_rfl
def MN:List V:=[.str [46,46,57,59,32,111,112,101,114,97,116,105,111,110,32,111,40,112,58,32,115,41,32,123,32,105,110,115,101,114,116,32,114,40,112,41,59,32,102,111,114,32,120,58,32,115,32,119,104,101,114,101,32,120,32,33,61,32,112,32,123,32,97,100,100,32,50,32,116,111,32,99,40,120,41,59,32,125,32,104,111,108,100,32,99,40,48,41,32,45,32,50,32,42,32,99,40,112,41,32,62,61,32,49,59,32,125]]
def MO:V:=J 2
theorem Zv:aS (er g) 200 (.fn 231 [] []) MN []=some (MO,[],0):=by kernel_rfl
def MP:List V:=[.str [59,32,111,112,101,114,97,116,105,111,110,32,111,40,112,58,32,115,41,32,123,32,105,110,115,101,114,116,32,114,40,112,41,59,32,102,111,114,32,120,58,32,115,32,119,104,101,114,101,32,120,32,33,61,32,112,32,123,32,97,100,100,32,50,32,116,111,32,99,40,120,41,59,32,125,32,104,111,108,100,32,99,40,48,41,32,45,32,50,32,42,32,99,40,112,41,32,62,61,32,49,59,32,125]]
def MQ:V:=J 1
theorem Zw:aS (er g) 200 (.fn 231 [] []) MP []=some (MQ,[],0):=by kernel_rfl
def MR:List V:=[.str [40,112,58,32,115,41,32,123,32,105,110,115,101,114,116,32,114,40,112,41,59,32,102,111,114,32,120,58,32,115,32,119,104,101,114,101,32,120,32,33,61,32,112,32,123,32,97,100,100,32,50,32,116,111,32,99,40,120,41,59,32,125,32,104,111,108,100,32,99,40,48,41,32,45,32,50,32,42,32,99,40,112,41,32,62,61,32,49,59,32,125]]
def MS:V:=J 1
theorem Zx:aS (er g) 200 (.fn 231 [] []) MR []=some (MS,[],0):=by kernel_rfl
def MT:List V:=[.str [58,32,115,41,32,123,32,105,110,115,101,114,116,32,114,40,112,41,59,32,102,111,114,32,120,58,32,115,32,119,104,101,114,101,32,120,32,33,61,32,112,32,123,32,97,100,100,32,50,32,116,111,32,99,40,120,41,59,32,125,32,104,111,108,100,32,99,40,48,41,32,45,32,50,32,42,32,99,40,112,41,32,62,61,32,49,59,32,125]]
def MU:V:=J 1
theorem Zy:aS (er g) 200 (.fn 231 [] []) MT []=some (MU,[],0):=by kernel_rfl
def MV:List V:=[.str [41,32,123,32,105,110,115,101,114,116,32,114,40,112,41,59,32,102,111,114,32,120,58,32,115,32,119,104,101,114,101,32,120,32,33,61,32,112,32,123,32,97,100,100,32,50,32,116,111,32,99,40,120,41,59,32,125,32,104,111,108,100,32,99,40,48,41,32,45,32,50,32,42,32,99,40,112,41,32,62,61,32,49,59,32,125]]
def MW:V:=J 1
theorem Zz:aS (er g) 200 (.fn 231 [] []) MV []=some (MW,[],0):=by kernel_rfl
def MX:List V:=[.str [123,32,105,110,115,101,114,116,32,114,40,112,41,59,32,102,111,114,32,120,58,32,115,32,119,104,101,114,101,32,120,32,33,61,32,112,32,123,32,97,100,100,32,50,32,116,111,32,99,40,120,41,59,32,125,32,104,111,108,100,32,99,40,48,41,32,45,32,50,32,42,32,99,40,112,41,32,62,61,32,49,59,32,125]]
def MY:V:=J 1
theorem ZA:aS (er g) 200 (.fn 231 [] []) MX []=some (MY,[],0):=by kernel_rfl
def MZ:List V:=[.str [40,112,41,59,32,102,111,114,32,120,58,32,115,32,119,104,101,114,101,32,120,32,33,61,32,112,32,123,32,97,100,100,32,50,32,116,111,32,99,40,120,41,59,32,125,32,104,111,108,100,32,99,40,48,41,32,45,32,50,32,42,32,99,40,112,41,32,62,61,32,49,59,32,125]]
def M0:V:=J 1
theorem ZB:aS (er g) 200 (.fn 231 [] []) MZ []=some (M0,[],0):=by kernel_rfl
def M1:List V:=[.str [41,59,32,102,111,114,32,120,58,32,115,32,119,104,101,114,101,32,120,32,33,61,32,112,32,123,32,97,100,100,32,50,32,116,111,32,99,40,120,41,59,32,125,32,104,111,108,100,32,99,40,48,41,32,45,32,50,32,42,32,99,40,112,41,32,62,61,32,49,59,32,125]]
def M3:V:=J 1
theorem ZC:aS (er g) 200 (.fn 231 [] []) M1 []=some (M3,[],0):=by kernel_rfl
def M4:List V:=[.str [59,32,102,111,114,32,120,58,32,115,32,119,104,101,114,101,32,120,32,33,61,32,112,32,123,32,97,100,100,32,50,32,116,111,32,99,40,120,41,59,32,125,32,104,111,108,100,32,99,40,48,41,32,45,32,50,32,42,32,99,40,112,41,32,62,61,32,49,59,32,125]]
def M5:V:=J 1
theorem ZD:aS (er g) 200 (.fn 231 [] []) M4 []=some (M5,[],0):=by kernel_rfl
def M6:List V:=[.str [58,32,115,32,119,104,101,114,101,32,120,32,33,61,32,112,32,123,32,97,100,100,32,50,32,116,111,32,99,40,120,41,59,32,125,32,104,111,108,100,32,99,40,48,41,32,45,32,50,32,42,32,99,40,112,41,32,62,61,32,49,59,32,125]]
def M7:V:=J 1
theorem ZE:aS (er g) 200 (.fn 231 [] []) M6 []=some (M7,[],0):=by kernel_rfl
def M8:List V:=[.str [33,61,32,112,32,123,32,97,100,100,32,50,32,116,111,32,99,40,120,41,59,32,125,32,104,111,108,100,32,99,40,48,41,32,45,32,50,32,42,32,99,40,112,41,32,62,61,32,49,59,32,125]]
def M9:V:=J 2
theorem ZF:aS (er g) 200 (.fn 231 [] []) M8 []=some (M9,[],0):=by kernel_rfl
def Na:List V:=[.str [123,32,97,100,100,32,50,32,116,111,32,99,40,120,41,59,32,125,32,104,111,108,100,32,99,40,48,41,32,45,32,50,32,42,32,99,40,112,41,32,62,61,32,49,59,32,125]]
def Nb:V:=J 1
theorem ZG:aS (er g) 200 (.fn 231 [] []) Na []=some (Nb,[],0):=by kernel_rfl
def Nc:List V:=[.str [40,120,41,59,32,125,32,104,111,108,100,32,99,40,48,41,32,45,32,50,32,42,32,99,40,112,41,32,62,61,32,49,59,32,125]]
def Nd:V:=J 1
theorem ZH:aS (er g) 200 (.fn 231 [] []) Nc []=some (Nd,[],0):=by kernel_rfl
def Nf:List V:=[.str [41,59,32,125,32,104,111,108,100,32,99,40,48,41,32,45,32,50,32,42,32,99,40,112,41,32,62,61,32,49,59,32,125]]
def Ng:V:=J 1
theorem ZI:aS (er g) 200 (.fn 231 [] []) Nf []=some (Ng,[],0):=by kernel_rfl
def Nh:List V:=[.str [59,32,125,32,104,111,108,100,32,99,40,48,41,32,45,32,50,32,42,32,99,40,112,41,32,62,61,32,49,59,32,125]]
def Ni:V:=J 1
theorem ZJ:aS (er g) 200 (.fn 231 [] []) Nh []=some (Ni,[],0):=by kernel_rfl
def Nj:List V:=[.str [125,32,104,111,108,100,32,99,40,48,41,32,45,32,50,32,42,32,99,40,112,41,32,62,61,32,49,59,32,125]]
def Nk:V:=J 1
theorem ZK:aS (er g) 200 (.fn 231 [] []) Nj []=some (Nk,[],0):=by kernel_rfl
def Nl:List V:=[.str [40,48,41,32,45,32,50,32,42,32,99,40,112,41,32,62,61,32,49,59,32,125]]
def Nn:V:=J 1
theorem ZL:aS (er g) 200 (.fn 231 [] []) Nl []=some (Nn,[],0):=by kernel_rfl
def Np:List V:=[.str [41,32,45,32,50,32,42,32,99,40,112,41,32,62,61,32,49,59,32,125]]
def Nq:V:=J 1
theorem ZM:aS (er g) 200 (.fn 231 [] []) Np []=some (Nq,[],0):=by kernel_rfl
def Nr:List V:=[.str [45,32,50,32,42,32,99,40,112,41,32,62,61,32,49,59,32,125]]
def Ns:V:=J 1
theorem ZN:aS (er g) 200 (.fn 231 [] []) Nr []=some (Ns,[],0):=by kernel_rfl
def Nt:List V:=[.str [42,32,99,40,112,41,32,62,61,32,49,59,32,125]]
def Nu:V:=J 1
theorem ZO:aS (er g) 200 (.fn 231 [] []) Nt []=some (Nu,[],0):=by kernel_rfl
def Nv:List V:=[.str [40,112,41,32,62,61,32,49,59,32,125]]
def Nw:V:=J 1
theorem ZP:aS (er g) 200 (.fn 231 [] []) Nv []=some (Nw,[],0):=by kernel_rfl
def Nx:List V:=[.str [41,32,62,61,32,49,59,32,125]]
def Ny:V:=J 1
theorem ZQ:aS (er g) 200 (.fn 231 [] []) Nx []=some (Ny,[],0):=by kernel_rfl
def Nz:List V:=[.str [62,61,32,49,59,32,125]]
def NA:V:=J 2
theorem ZR:aS (er g) 200 (.fn 231 [] []) Nz []=some (NA,[],0):=by kernel_rfl
def NB:List V:=[.str [59,32,125]]
def NC:V:=J 1
theorem ZS:aS (er g) 200 (.fn 231 [] []) NB []=some (NC,[],0):=by kernel_rfl
def ND:List V:=[.str [125]]
def NF:V:=J 1
theorem ZT:aS (er g) 200 (.fn 231 [] []) ND []=some (NF,[],0):=by kernel_rfl
def NG:List (List V × V):=[(Mx,My),(Mz,MA),(MB,MC),(MD,ME),(MF,MG),(MH,MI),(MJ,MK),(ML,MM),(MN,MO),(MP,MQ),(MR,MS),(MT,MU),(MV,MW),(MX,MY),(MZ,M0),(M1,M3),(M4,M5),(M6,M7),(M8,M9),(Na,Nb),(Nc,Nd),(Nf,Ng),(Nh,Ni),(Nj,Nk),(Nl,Nn),(Np,Nq),(Nr,Ns),(Nt,Nu),(Nv,Nw),(Nx,Ny),(Nz,NA),(NB,NC),(ND,NF)]
theorem ZU:iS (er g) 200 231 NG:=⟨⟨by kernel_rfl,Zn g⟩,⟨⟨by kernel_rfl,Zo g⟩,⟨⟨by kernel_rfl,Zp g⟩,⟨⟨by kernel_rfl,Zq g⟩,⟨⟨by kernel_rfl,Zr g⟩,⟨⟨by kernel_rfl,Zs g⟩,⟨⟨by kernel_rfl,Zt g⟩,⟨⟨by kernel_rfl,Zu g⟩,⟨⟨by kernel_rfl,Zv g⟩,⟨⟨by kernel_rfl,Zw g⟩,⟨⟨by kernel_rfl,Zx g⟩,⟨⟨by kernel_rfl,Zy g⟩,⟨⟨by kernel_rfl,Zz g⟩,⟨⟨by kernel_rfl,ZA g⟩,⟨⟨by kernel_rfl,ZB g⟩,⟨⟨by kernel_rfl,ZC g⟩,⟨⟨by kernel_rfl,ZD g⟩,⟨⟨by kernel_rfl,ZE g⟩,⟨⟨by kernel_rfl,ZF g⟩,⟨⟨by kernel_rfl,ZG g⟩,⟨⟨by kernel_rfl,ZH g⟩,⟨⟨by kernel_rfl,ZI g⟩,⟨⟨by kernel_rfl,ZJ g⟩,⟨⟨by kernel_rfl,ZK g⟩,⟨⟨by kernel_rfl,ZL g⟩,⟨⟨by kernel_rfl,ZM g⟩,⟨⟨by kernel_rfl,ZN g⟩,⟨⟨by kernel_rfl,ZO g⟩,⟨⟨by kernel_rfl,ZP g⟩,⟨⟨by kernel_rfl,ZQ g⟩,⟨⟨by kernel_rfl,ZR g⟩,⟨⟨by kernel_rfl,ZS g⟩,⟨⟨by kernel_rfl,ZT g⟩,trivial⟩⟩⟩⟩⟩⟩⟩⟩⟩⟩⟩⟩⟩⟩⟩⟩⟩⟩⟩⟩⟩⟩⟩⟩⟩⟩⟩⟩⟩⟩⟩⟩⟩
def F9:Nat->Option bQ:=over (er g) 231 (iR NG)
def NH:List (List V × V):=[]
theorem ZV:iS (F9 g) 200 233 NH:=trivial
def mc:Nat->Option bQ:=over (F9 g) 233 (iR NH)
def NI:List V:=[.str [50]]
def NJ:V:=J 3
theorem ZW:aS (mc g) 200 (.fn 147 [] []) NI []=some (NJ,[],0):=by kernel_rfl
def NK:List V:=[.str [48]]
def NL:V:=J 3
theorem ZX:aS (mc g) 200 (.fn 147 [] []) NK []=some (NL,[],0):=by kernel_rfl
def NM:List V:=[.str [57]]
def NN:V:=J 3
theorem ZY:aS (mc g) 200 (.fn 147 [] []) NM []=some (NN,[],0):=by kernel_rfl
def NP:List V:=[.str [49]]
def NQ:V:=J 3
theorem ZZ:aS (mc g) 200 (.fn 147 [] []) NP []=some (NQ,[],0):=by kernel_rfl
def NR:List V:=[.str [115]]
def NS:V:=J 1
theorem Z0:aS (mc g) 200 (.fn 147 [] []) NR []=some (NS,[],0):=by kernel_rfl
def NT:List V:=[.str [114]]
def NU:V:=J 1
theorem Z1:aS (mc g) 200 (.fn 147 [] []) NT []=some (NU,[],0):=by kernel_rfl
def NV:List V:=[.str [97]]
def NW:V:=J 1
theorem Z2:aS (mc g) 200 (.fn 147 [] []) NV []=some (NW,[],0):=by kernel_rfl
def NX:List V:=[.str [99]]
def NY:V:=J 1
theorem Z3:aS (mc g) 200 (.fn 147 [] []) NX []=some (NY,[],0):=by kernel_rfl
def NZ:List V:=[.str [111]]
def N0:V:=J 1
theorem Z4:aS (mc g) 200 (.fn 147 [] []) NZ []=some (N0,[],0):=by kernel_rfl
def N1:List V:=[.str [112]]
def N2:V:=J 1
theorem Z5:aS (mc g) 200 (.fn 147 [] []) N1 []=some (N2,[],0):=by kernel_rfl
def N3:List V:=[.str [120]]
def N4:V:=J 1
theorem Z6:aS (mc g) 200 (.fn 147 [] []) N3 []=some (N4,[],0):=by kernel_rfl
def N5:List (List V × V):=[(NI,NJ),(NK,NL),(NM,NN),(NP,NQ),(NR,NS),(NT,NU),(NV,NW),(NX,NY),(NZ,N0),(N1,N2),(N3,N4)]
theorem Z7:iS (mc g) 200 147 N5:=⟨⟨by kernel_rfl,ZW g⟩,⟨⟨by kernel_rfl,ZX g⟩,⟨⟨by kernel_rfl,ZY g⟩,⟨⟨by kernel_rfl,ZZ g⟩,⟨⟨by kernel_rfl,Z0 g⟩,⟨⟨by kernel_rfl,Z1 g⟩,⟨⟨by kernel_rfl,Z2 g⟩,⟨⟨by kernel_rfl,Z3 g⟩,⟨⟨by kernel_rfl,Z4 g⟩,⟨⟨by kernel_rfl,Z5 g⟩,⟨⟨by kernel_rfl,Z6 g⟩,trivial⟩⟩⟩⟩⟩⟩⟩⟩⟩⟩⟩
def Bm:Nat->Option bQ:=over (mc g) 147 (iR N5)
end
end Go.Abs.cb
set_option maxRecDepth 100000
namespace Go.Abs.cb
open Go Go.Abs Go.Proofs
noncomputable section
variable (g:Nat->Option Obj)
def N6:List V:=[nh]
def N7:V:=.bool true
theorem Z8:aS (Bm g) 200 (.fn 41 [] []) N6 []=some (N7,[],0):=by kernel_rfl
def N8:List (List V × V):=[(N6,N7)]
theorem Z9:iS (Bm g) 200 41 N8:=⟨⟨by kernel_rfl,Z8 g⟩,trivial⟩
def Bn:Nat->Option bQ:=over (Bm g) 41 (iR N8)
def N9:List V:=[nh]
def Oa:V:=.aR [.agg [.list 4 [.agg [J 0,.str [115],J 1,J (-1)],.agg [J 1,.str [114],J 3,J (-1)],.agg [J 4,.str [97],J 5,J 3],.agg [J 1,.str [99],J 7,J (-1)],.agg [J 4,.str [97],J 9,J 7],.agg [J 3,.str [111],J 14,J (-1)],.agg [J 6,.str [112],J 16,J 14],.agg [J 5,.str [120],J 24,J 14]],.list 1 [J (-1),J 0,J (-1),J 1,J (-1),J 2,J 0,J 3,J (-1),J 4,J 0,J (-1),J (-1),J (-1),J 5,J (-1),J 6,J 0,J (-1),J (-1),J (-1),J 1,J 6,J (-1),J 7,J 0,J (-1),J 7,J 6,J (-1),J (-1),J (-1),J 3,J 7,J (-1),J (-1),J (-1),J (-1),J (-1),J 3,J (-1),J (-1),J (-1),J (-1),J 3,J 6,J (-1),J (-1)]],.ak,J 0]
theorem aaa:aS (Bn g) 200 (.fn 45 [] []) N9 []=some (Oa,[],0):=by kernel_rfl
def Ob:List (List V × V):=[(N9,Oa)]
theorem aab:iS (Bn g) 200 45 Ob:=⟨⟨by kernel_rfl,aaa g⟩,trivial⟩
def wE:Nat->Option bQ:=over (Bn g) 45 (iR Ob)
end
end Go.Abs.cb
