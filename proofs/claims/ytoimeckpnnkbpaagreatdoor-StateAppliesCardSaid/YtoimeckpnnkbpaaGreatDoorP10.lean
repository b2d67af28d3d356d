/- Texts of this claim, joined and written short by a program. -/
import Derived.Test.YtoimeckpnnkbpaaGreatDoorP01
import Derived.Test.YtoimeckpnnkbpaaGreatDoorP09
import Derived.Test.YtoimeckpnnkbpaaGreatDoorP00
set_option linter.unusedVariables false
set_option linter.unusedSimpArgs false
set_option linter.unusedSectionVars false
namespace Go.Abs
open Go
def yD (es:Nat):V->Bool
 | .cp| .emp=>true
 | .list bD _=>bD==es
 | _=>false
def el:V->List V
 | .list _ ds=>ds
 | _=>[]
section
variable{call:cU}{ae:ag->V}{H:Heap}{low:Nat}
theorem ly (x:ag):b2 call ae H low (.mv x)=some (ae x,H,low):=rfl
theorem kG (c a b:ag):b2 call ae H low (.pick c a b)=(kR (ae c)).map fun t=>(if t then ae a else ae b,H,low):=rfl
theorem mc (z:List V):b2 call ae H low (.alloc z)=some (.ptr H.length 0,H++[.cells z],low):=rfl
theorem nH (x:ag):b2 call ae H low (.box x)=if bS (aE (ae x))then some (.ptr H.length 0,H++[.cells (aE (ae x))],low)else none:=rfl
theorem jK (sh:Option Nat)(x:ag):b2 call ae H low (.load sh x)=(gN H sh (ae x)).map fun v=>(v,H,low):=rfl
theorem jL (n:Nat)(a x:ag):b2 call ae H low (.store n a x)=(hD H n (ae a) (ae x)).map fun(H',l)=>(.undef,H',min low l):=rfl
theorem jq (op:BinOp)(x y:ag):b2 call ae H low (.bin op x y)=(dB op (ae x) (ae y)).map fun v=>(v,H,low):=rfl
theorem k2 (op:UnOp)(x:ag):b2 call ae H low (.un op x)=(kS op (ae x)).map fun v=>(v,H,low):=rfl
theorem lz (k:Nat)(neg:Bool)(x y:ag):b2 call ae H low (.pt k neg x y)=(oJ k (ae x) (ae y)).map fun e=>(.bool (if neg then !e else e),H,low):=rfl
theorem MG (i:Nat)(a b:List ag):b2 call ae H low (.sS i a b)=some (.fn i (a.map ae) (b.map ae),H,low):=rfl
theorem TX:b2 call ae H low .mkMap=some (.map H.length,H++[.map []],low):=rfl
theorem me (x:ag)(i:Nat):b2 call ae H low (.extract x i)=match ae x with
 | .aU vs=>(vs[i]?).map fun v=>(v,H,low)
 | _=>none:=rfl
theorem afV (off:Nat)(sh:Option Nat)(x:ag):b2 call ae H low (.field off sh x)=match ae x with
 | .agg vs=>(fY vs off sh).map fun v=>(v,H,low)
 | _=>none:=rfl
theorem mf (off:Nat)(x:ag):b2 call ae H low (.fieldAddr off x)=match ae x with
 | .ptr l o=>some (.ptr l (o+off),H,low)
 | .gF l es i f tag=>some (.gF l es i (f+off) tag,H,low)
 | .dn vs f=>some (.dn vs (f+off),H,low)
 | _=>none:=rfl
theorem k3 (f:ag)(args:List ag):b2 call ae H low (.call false f args)=match dX H low (args.map ae)with
 |some (vs,H',low')=>match call (ae f) vs H' with
  |some (v,FV,l)=>if flat v=true/\H'.length<=l then some (v,H,low)else some (v,FV,min low' l)
  |none=>none
 |none=>none:=rfl
theorem lA (f:ag)(args:List ag):b2 call ae H low (.call true f args)=match call (ae f) (args.map ae) H with
 |some (v,H',l)=>some (v,H',min low l)
 |none=>none:=rfl
theorem th (es bytes:Nat)(a b:ag):b2 call ae H low (.append es bytes a b)=step ae H low (.append es bytes a b):=rfl
theorem Dv (es:Nat)(z:List V)(n:Nat)(ps:List (Nat × ag))(jc:Bool):b2 call ae H low (.lit es z n ps jc)=step ae H low (.lit es z n ps jc):=rfl
theorem MH (es:Nat)(z:List V)(b:Nat)(l c:ag):b2 call ae H low (.mkSlice es z b l c)=step ae H low (.mkSlice es z b l c):=rfl
theorem TY (es:Nat)(x:ag)(lo hi mx:Option ag):b2 call ae H low (.pw es x lo hi mx)=step ae H low (.pw es x lo hi mx):=rfl
theorem Hd (k:Nat)(z:V)(x i:ag)(ok:Bool):b2 call ae H low (.lookup k z x i ok)=step ae H low (.lookup k z x i ok):=rfl
theorem TZ (k:Nat)(m x v:ag):b2 call ae H low (.px k m x v)=step ae H low (.px k m x v):=rfl
theorem T0 (m:Bool)(x y:ag):b2 call ae H low (.ug m x y)=step ae H low (.ug m x y):=rfl
theorem T1{x:ag}(es:Nat)(h:yD es (ae x)=true):b2 call ae H low (.len 1 x)=some (.int .i64 (el (ae x)).length,H,low):=by
 show step ae H low (.len 1 x)=_;cases hx:ae x<;>simp_all [yD,step,el]
theorem afW{es:Nat}{x i:ag}(h:yD es (ae x)=true):b2 call ae H low (.indexAddr es x i)=match kr (ae i)with
  |some k=>((el (ae x))[k]?).map fun d=>(.dn (aE d) 0,H,low)
  |none=>none:=by
 show step ae H low (.indexAddr es x i)=_;cases hx:ae x<;>simp_all [yD,step,el]<;>cases kr (ae i)<;>rfl
end
@[simp] theorem as9 (k : IntKind) (n : Nat) : kr (.int k (n : Int)) = some n := by simp [kr]
@[simp] theorem iT (H : Heap) : eG H H H.length = false := by simp [eG]
theorem wrap_small{n:Int}(h1:-9223372036854775808<=n)(h2:n<9223372036854775808):IntKind.i64.wrap n=n:=by
 have e:(2^IntKind.i64.bits:Int)=18446744073709551616:=rfl;have e':(2^(IntKind.i64.bits-1):Int)=9223372036854775808:=rfl;have s:IntKind.i64.signed=true:=rfl;simp only[IntKind.wrap,e,e',s,fI,decide_eq_true_eq];split<;>omega
theorem fB (e:Env)(t eY:Nat)(v:V):bk (ec e t v) eY=if eY=t then v else bk e eY:=by
 induction e with
 |nil=>
  by_cases h:eY=t
  ·subst h;simp[ec,bk]
  ·simp[ec,bk,h,kp h]
 |cons p r ih=>
  obtain⟨k,u⟩:=p;simp only[ec];split
  ·rename_i cW
   subst cW;by_cases h:eY=k
   ·subst h;simp[bk]
   ·simp[bk,h,kp h]
  ·rename_i cW
   simp only[bk];split
   ·rename_i h
    rw[if_neg (by omega)]
   ·exact ih
def vd (b n i t blk ex:Nat)(body:cj):cj:=
 .seq (.region [⟨some (b,true),.bin .lss (.var i) (.var n),none⟩] none) (.seq (.cond (.var b) (.skip) (.exit ex)) (.seq (.block blk body)
  (.region [⟨some (t,false),.bin .add (.var i) (.const (.int .i64 1)),none⟩,⟨some (i,true),.mv (.tmp t),none⟩] none)))
theorem afX{aa:Nat->Option bY}{b n i t blk ex:Nat}{body:cj}{I:Nat->aq->Prop}{Q:X->aq->Prop}{N:Nat}(wN:N<4611686018427387904)(Sz:b≠i)(hex:ex≠blk)
  (aW:∀k st,I k st->bk st.av i=.int .i64 k/\bk st.av n=.int .i64 N/\st.low<=st.H.length)
  (round:∀k st,k<N->I k st->∃x fU,dx aa body {st with aG:=[],av:=ec st.av b (.bool true)}=some (x,fU)/\
    if x=.normal\/x=.exit blk then bk fU.av i=.int .i64 k/\fU.low<=fU.H.length/\I (k+1) {fU with aG:=[],av:=ec fU.av i (.int .i64 ((k+1:Nat):Int))}else Q x fU)
  (done:∀st,I N st->Q (.exit ex) {st with aG:=[],av:=ec st.av b (.bool false)}):
  ∀j k st,k+j=N->I k st->∃x aF,dx aa (.loop (vd b n i t blk ex body)) st=some (x,aF)/\Q x aF:=by
 have aX:∀k st,I k st->dx aa (.region [⟨some (b,true),.bin .lss (.var i) (.var n),none⟩] none) st=some (.normal,{st with aG:=[],av:=ec st.av b (.bool (decide (k<N)))}):=fun k st h=>by
  obtain⟨h1,h2,ar⟩:=aW k st h;rw[h6];simp[cQ,e3,jq,ag.ae,h1,h2,dB,aq.put,lP ar]
 intro j
 induction j with
 |zero=>
  intro k st cW h;have:k=N:=by omega
  subst this;refine⟨.exit ex,_,?_,done st h⟩;rw[py];simp only[vd];rw[gn,aX k st h];simp only[];rw[gn,iO];simp[ag.ae,fB,lf]
 |succ j ih=>
  intro k st cW h;obtain⟨x,fU,h1,h2⟩:=round k st (by omega) h
  have G9:∀r,dx aa (.seq (.block blk body) (.region [⟨some (t,false),.bin .add (.var i) (.const (.int .i64 1)),none⟩,⟨some (i,true),.mv (.tmp t),none⟩] none)) {st with aG:=[],av:=ec st.av b (.bool true)}=r->
    dx aa (vd b n i t blk ex body) st=r:=fun r hr=>by
   simp only[vd];rw[gn,aX k st h];simp only[];rw[gn,iO];have hd:decide (k<N)=true:=by simp;omega
   simp[ag.ae,fB,jC,hd,hr]
  by_cases hx:x=.normal\/x=.exit blk
  ·rw[if_pos hx]at h2
   obtain⟨h2,aQ,ar⟩:=h2
   have MI:dx aa (.block blk body) {st with aG:=[],av:=ec st.av b (.bool true)}=some (.normal,fU):=by
    rw[jY,h1];rcases hx with rfl|rfl
    ·rfl
    ·simp
   have afY:dx aa (.region [⟨some (t,false),.bin .add (.var i) (.const (.int .i64 1)),none⟩,⟨some (i,true),.mv (.tmp t),none⟩] none) fU=some (.normal,{fU with aG:=[],av:=ec fU.av i (.int .i64 ((k+1:Nat):Int))}):=by
    have hw:IntKind.i64.wrap ((k:Int)+1)=((k+1:Nat):Int):=by rw[wrap_small]<;>omega
    rw[h6];simp[cQ,e3,jq,ly,ag.ae,h2,dB,hw,aq.put,bk,lP aQ]
   have o4:=G9 _ (by rw[gn,MI]);simp only[afY]at o4;obtain⟨eI,aF,h5,ft⟩:=ih (k+1) _ (by omega) ar;exact⟨eI,aF,by rw[py,o4];exact h5,ft⟩
  ·rw[if_neg hx]at h2
   have MI:dx aa (.block blk body) {st with aG:=[],av:=ec st.av b (.bool true)}=some (x,fU):=by
    rw[jY,h1];cases x with
    |normal=>exact absurd (.inl rfl) hx
    |exit id=>
     have:id≠blk:=fun e=>hx (.inr (by rw[e]));simp[this]
    |ret=>rfl
   have o4:=G9 (some (x,fU)) (by
    rw[gn,MI];cases x with
    |normal=>exact absurd (.inl rfl) hx
    |exit id=>rfl
    |ret=>rfl)
   refine⟨x,fU,?_,h2⟩;rw[py,o4];cases x with
   |normal=>exact absurd (.inl rfl) hx
   |exit id=>rfl
   |ret=>rfl
end Go.Abs
namespace Go.Abs
open Go
end Go.Abs
namespace Go.Abs.S
open Go Go.Abs
abbrev t0:ag:=.tmp 0
abbrev v0:ag:=.var 0
abbrev t1:ag:=.tmp 1
abbrev v1:ag:=.var 1
abbrev t2:ag:=.tmp 2
abbrev v2:ag:=.var 2
abbrev t3:ag:=.tmp 3
abbrev v3:ag:=.var 3
abbrev t4:ag:=.tmp 4
abbrev v4:ag:=.var 4
abbrev t5:ag:=.tmp 5
abbrev v5:ag:=.var 5
abbrev t6:ag:=.tmp 6
abbrev v6:ag:=.var 6
abbrev t7:ag:=.tmp 7
abbrev ka:ag:=.var 7
abbrev t8:ag:=.tmp 8
abbrev r7:ag:=.var 8
abbrev t9:ag:=.tmp 9
abbrev v9:ag:=.var 9
abbrev t10:ag:=.tmp 10
abbrev v10:ag:=.var 10
abbrev t11:ag:=.tmp 11
abbrev v11:ag:=.var 11
abbrev t12:ag:=.tmp 12
abbrev v12:ag:=.var 12
abbrev t13:ag:=.tmp 13
abbrev He:ag:=.var 13
abbrev t14:ag:=.tmp 14
abbrev t15:ag:=.tmp 15
abbrev r8:ag:=.var 15
abbrev t16:ag:=.tmp 16
abbrev t17:ag:=.tmp 17
abbrev t18:ag:=.tmp 18
abbrev T3:ag:=.var 18
abbrev t19:ag:=.tmp 19
abbrev t20:ag:=.tmp 20
abbrev v20:ag:=.var 20
abbrev t21:ag:=.tmp 21
abbrev t22:ag:=.tmp 22
abbrev t23:ag:=.tmp 23
abbrev af0:ag:=.var 23
abbrev t24:ag:=.tmp 24
abbrev t25:ag:=.tmp 25
abbrev t26:ag:=.tmp 26
abbrev af2:ag:=.var 26
abbrev t27:ag:=.tmp 27
abbrev af3:ag:=.var 27
abbrev t28:ag:=.tmp 28
abbrev t29:ag:=.tmp 29
abbrev t30:ag:=.tmp 30
abbrev t31:ag:=.tmp 31
abbrev t32:ag:=.tmp 32
abbrev af5:ag:=.var 32
abbrev t33:ag:=.tmp 33
abbrev t34:ag:=.tmp 34
abbrev t35:ag:=.tmp 35
abbrev t36:ag:=.tmp 36
abbrev t37:ag:=.tmp 37
abbrev v37:ag:=.var 37
abbrev t38:ag:=.tmp 38
abbrev t39:ag:=.tmp 39
abbrev t40:ag:=.tmp 40
abbrev t41:ag:=.tmp 41
abbrev t42:ag:=.tmp 42
abbrev t43:ag:=.tmp 43
abbrev t44:ag:=.tmp 44
abbrev af7:ag:=.var 44
abbrev t45:ag:=.tmp 45
abbrev t46:ag:=.tmp 46
abbrev t47:ag:=.tmp 47
abbrev t48:ag:=.tmp 48
abbrev af8:ag:=.var 48
abbrev t49:ag:=.tmp 49
abbrev t50:ag:=.tmp 50
abbrev t51:ag:=.tmp 51
abbrev t52:ag:=.tmp 52
abbrev t53:ag:=.tmp 53
abbrev t54:ag:=.tmp 54
abbrev t55:ag:=.tmp 55
abbrev t56:ag:=.tmp 56
abbrev t57:ag:=.tmp 57
abbrev t58:ag:=.tmp 58
abbrev t59:ag:=.tmp 59
abbrev t60:ag:=.tmp 60
abbrev t61:ag:=.tmp 61
abbrev t62:ag:=.tmp 62
abbrev t63:ag:=.tmp 63
abbrev t64:ag:=.tmp 64
abbrev t65:ag:=.tmp 65
abbrev t66:ag:=.tmp 66
abbrev t67:ag:=.tmp 67
abbrev t68:ag:=.tmp 68
abbrev t69:ag:=.tmp 69
abbrev t70:ag:=.tmp 70
abbrev v70:ag:=.var 70
abbrev t71:ag:=.tmp 71
abbrev t72:ag:=.tmp 72
abbrev v72:ag:=.var 72
abbrev t73:ag:=.tmp 73
abbrev t74:ag:=.tmp 74
abbrev t75:ag:=.tmp 75
abbrev t76:ag:=.tmp 76
abbrev t77:ag:=.tmp 77
abbrev t78:ag:=.tmp 78
abbrev t79:ag:=.tmp 79
abbrev t80:ag:=.tmp 80
abbrev t81:ag:=.tmp 81
abbrev t82:ag:=.tmp 82
abbrev t83:ag:=.tmp 83
abbrev t84:ag:=.tmp 84
abbrev t85:ag:=.tmp 85
abbrev t86:ag:=.tmp 86
abbrev t87:ag:=.tmp 87
abbrev t88:ag:=.tmp 88
abbrev t89:ag:=.tmp 89
abbrev t90:ag:=.tmp 90
abbrev t91:ag:=.tmp 91
abbrev t92:ag:=.tmp 92
abbrev t93:ag:=.tmp 93
abbrev t94:ag:=.tmp 94
abbrev t95:ag:=.tmp 95
abbrev t96:ag:=.tmp 96
abbrev t97:ag:=.tmp 97
abbrev aga:ag:=.var 98
abbrev t100:ag:=.tmp 100
abbrev t101:ag:=.tmp 101
abbrev t102:ag:=.tmp 102
abbrev t103:ag:=.tmp 103
abbrev T4:ag:=.var 103
abbrev v105:ag:=.var 105
abbrev t107:ag:=.tmp 107
abbrev t108:ag:=.tmp 108
abbrev t109:ag:=.tmp 109
abbrev t110:ag:=.tmp 110
abbrev t111:ag:=.tmp 111
abbrev t112:ag:=.tmp 112
abbrev t113:ag:=.tmp 113
abbrev t114:ag:=.tmp 114
abbrev t115:ag:=.tmp 115
abbrev t117:ag:=.tmp 117
abbrev t120:ag:=.tmp 120
abbrev t121:ag:=.tmp 121
abbrev t122:ag:=.tmp 122
abbrev agb:ag:=.var 122
abbrev t123:ag:=.tmp 123
abbrev t124:ag:=.tmp 124
abbrev t125:ag:=.tmp 125
abbrev t126:ag:=.tmp 126
abbrev t127:ag:=.tmp 127
abbrev v127:ag:=.var 127
abbrev t128:ag:=.tmp 128
abbrev t129:ag:=.tmp 129
abbrev t130:ag:=.tmp 130
abbrev v130:ag:=.var 130
abbrev t131:ag:=.tmp 131
abbrev t132:ag:=.tmp 132
abbrev t134:ag:=.tmp 134
abbrev t135:ag:=.tmp 135
abbrev t136:ag:=.tmp 136
abbrev c (n:Int):ag:=.const (.int .i64 n)
abbrev cs (l:List UInt8):ag:=.const (.str l)
abbrev h7:ag:=.const (.bool true)
abbrev gI:ag:=.const (.bool false)
abbrev nc:ag:=.const .cp
abbrev fn (i:Nat):ag:=.func i
def r (n:Nat)(o:cH):bO:=⟨some (n,false),o,none⟩
def o (n:Nat)(p:cH):bO:=⟨some (n,true),p,none⟩
def n (o:cH):bO:=⟨none,o,none⟩
def rg (n:Nat)(x:ag)(w:Bool)(o:cH):bO:=⟨some (n,false),o,some (x,w)⟩
def m (x:ag):cH:=.mv x
def bF (x:ag):cH:=.load none x
def ls (k:Nat)(x:ag):cH:=.load (some k) x
def st (k:Nat)(a x:ag):cH:=.store k a x
def c9 (k:Nat)(x:ag):cH:=.fieldAddr k x
def iG (k:Nat)(x i:ag):cH:=.indexAddr k x i
def fs (k n:Nat)(x:ag):cH:=.field k (some n) x
def ex (x:ag)(i:Nat):cH:=.extract x i
def gq (k:Nat)(x:ag):cH:=.len k x
def eq (x y:ag):cH:=.bin .eql x y
def ne (x y:ag):cH:=.bin .neq x y
def lt (x y:ag):cH:=.bin .lss x y
def gt (x y:ag):cH:=.bin .gtr x y
def le (x y:ag):cH:=.bin .leq x y
def dc (x y:ag):cH:=.bin .add x y
def no (x:ag):cH:=.un .not x
def hI (x y z:ag):cH:=.pick x y z
def fA (f:ag)(l:List ag):cH:=.call false f l
def ap (e b:Nat)(x y:ag):cH:=.append e b x y
def ij (x:ag):cH:=.box x
def q (a b:cj):cj:=.seq a b
def R (l:List bO):cj:=.region l none
def lB (l:List bO)(b:List Nat):cj:=.region l (some b)
def gg (x:ag)(a b:cj):cj:=.cond x a b
def b0 (i:Nat)(a:cj):cj:=.block i a
def k:cj:=.skip
def e (i:Nat):cj:=.exit i
def rt:cj:=.ret
abbrev nl:V:=.cp
abbrev z:V:=.int .i64 0
abbrev kV:V:=.str []
abbrev em:V:=.emp
end Go.Abs.S
set_option maxRecDepth 100000
namespace Go.Abs.hk
open Go Go.Abs Go.Proofs Go.Abs.S
noncomputable section
def gh:Code->Code| .seq a _=>a|c=>c
def cM:Code->Code| .seq _ a=>a|c=>c
def aDk:cj:=q (R [r 14 (iG 2 v10 v12),r 15 (ls 2 t14),o 5 (.alloc [z,z]),n (st 2 v5 t15)]) (R [r 16 (m v3),r 17 (c9 0 v5),r 18 (bF t17),r 19 (.lookup 0 (.int .i64 0) t16 t18 false),r 20 (c9 1 v5),r 21 (bF t20),r 22 (dc t19 t21),n (.px 0 t16 t18 t22)])
def aym:mK:=⟨[R [o 2 (m nc)],R [r 9 (.mkMap),o 3 (m t9)],q (R [o 10 (m v0),o 11 (gq 1 v10),o 12 (m (c 0))]) (b0 0 (.loop (vd 13 11 12 23 1 0 aDk))),R [o 6 (m nc)]],⟨[r 24 (m v3)],t24,25,(26,false),[o 27 (ex t26 0)],af3,3,(28,false),[r 29 (ex t28 0),r 30 (ex t28 1),o 7 (m t29),o 8 (m t30)],q (R [r 31 (m r7),o 32 (ne t31 (c 0))]) (gg af5 (R [r 33 (m v6),r 34 (m ka),r 35 (m r7),r 36 (.build [z,z] [(0,1,t34),(1,1,t35)]),r 37 (.lit 2 [z,z] 1 [(0,t36)] true),r 38 (ap 2 16 t33 t37),o 6 (m t38)]) k)⟩,q (R [r 39 (m v6),r 40 (.call true (fn 307) [t39,(fn 308)])]) (q (R [r 41 (m v6),o 2 (m t41)]) rt),[.tmp 2]⟩
def auM:Code:=Tryz.f183.body.getD .skip
theorem aDl (g:Nat->Option Obj):G6 (A g) Tryz.f183 aym:=⟨[gh auM,gh (cM auM),gh (cM (cM auM)),gh (cM (cM (cM auM)))],gh (cM (cM (cM (cM auM)))),cM (cM (cM (cM (cM auM)))),by kernel_rfl,by kernel_rfl,by kernel_rfl,by kernel_rfl,by kernel_rfl,by kernel_rfl⟩
variable (g:Nat->Option Obj)
theorem agf:aym.jf (cu (gf g) 120) 120 Tryz.f183.ntmps Rr:=⟨⟨by kernel_rfl,by kernel_rfl,by kernel_rfl⟩,⟨by kernel_rfl,by kernel_rfl,by kernel_rfl⟩,⟨by kernel_rfl,by kernel_rfl,by kernel_rfl⟩,⟨by kernel_rfl,by kernel_rfl,by kernel_rfl⟩,⟨by kernel_rfl,by kernel_rfl,by kernel_rfl⟩,⟨by kernel_rfl,by kernel_rfl,by kernel_rfl⟩,⟨by kernel_rfl,by kernel_rfl,by kernel_rfl⟩,trivial⟩
def sa:Nat->Option bY:=over (gf g) 183 (je Rr)
end
end Go.Abs.hk
