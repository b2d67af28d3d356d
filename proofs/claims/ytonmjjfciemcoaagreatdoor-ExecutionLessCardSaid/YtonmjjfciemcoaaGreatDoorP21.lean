/- Texts of this claim, joined and written short by a program. -/
import Derived.Test.YtonmjjfciemcoaaGreatDoorP18
import Derived.Test.YtonmjjfciemcoaaGreatDoorP19
import Derived.Test.YtonmjjfciemcoaaGreatDoorP20
import Derived.Test.YtonmjjfciemcoaaGreatDoorP00
set_option linter.unusedVariables false
set_option linter.unusedSimpArgs false
set_option linter.unusedSectionVars false
namespace Go.Abs
variable{aa:Nat->Option bU}
theorem aeZ{α:Type}{es bytes b:Nat}{f:α->V}{s y ao:ae α}{dB fP:aj}{dC:V}{m:List (Nat × b5)}{ms:cG}{H:Heap}{ah:aj->V}(cy:b<=H.length)(k:Nat)
  (hs:gz bytes s y=some ao) (aw:Own H ms) (hk:ms[k]? =some m) (hr:fE b es f dC s m) (ha:ah dB=dC) (hb:ah fP=bn es f y) (hp:∀a,bI (f a)=true) (hc:∀a,bL (aC (f a))=true):
  ∃v' H1 bO m',b<=bO/\b<=H1.length/\cc (b0 aa) ah H H.length (.append es bytes dB fP)=some (v',H1,bO)/\fE b es f v' ao m'/\Own H1 (ms.set k m'):=by
 have oR:ms.set k m=ms:=by
  apply oA;intro i;by_cases e:k=i
  ·subst e;rw[nI (fj.1 hk).1,hk]
  ·rw[jx e]
 have hfz:e0 H H.length (y.l.map f)=some (y.l.map f,H,H.length):=vk (ua hp _);have ry:=xa hc y.l;unfold gz at hs;by_cases hy:y.l=[]
 ·rw[if_pos hy]at hs
  cases hs;refine⟨dC,H,H.length,m,cy,cy,?_,hr,by rw[oR];exact aw⟩;rw[n4];simp only[step,hb,w9];rw[hfz,hy];simp only[iT,Oq,if_true,ha];have dj:fe b es dC (s.map f) m:=hr;generalize oW:s.map f=hS at dj;cases dj with
  |nil=>rfl
  |emp=>rfl
  |row l ds h hD=>simp[aw.get k hk]
 ·rw[if_neg hy]at hs
  split at hs
  ·rename_i ea
   cases hs
   have bg:(y.l.map f).isEmpty=false:=by cases vl:y.l with
    |nil=>exact absurd vl hy
    |cons=>rfl
   have pF:(bL ((y.l.map f).flatMap aC)=false)=False:=by rw[ry];simp
   have dj:fe b es dC (s.map f) m:=hr;generalize oW:s.map f=hS at dj;cases dj with
   |nil=>
    have ec:s.l=[]:=by cases s<;>simp_all [ae.map,ae.l]
    have oc:(y.l.map f).length*(bytes+1)<=2^40:=by simpa[ec]using ea
    refine⟨.bJ H.length es 0 (y.l.map f).length (y.l.map f).length,H++[.row es (y.l.map f) false],H.length,[(H.length,.row es (y.l.map f) false)],cy,by simp;omega,?_,?_,aw.fill k hk⟩
    ·rw[n4]
     simp only[step,hb,w9];rw[hfz];simp only[bg,gq,if_false,pF,ha,oc,if_true]
    ·simp only[ec,jN,ae.map]
     exact .row _ _ (by simpa using hy) cy
   |emp=>
    have ec:s.l=[]:=by cases s<;>simp_all [ae.map,ae.l]
    have oc:(y.l.map f).length*(bytes+1)<=2^40:=by simpa[ec]using ea
    refine⟨.bJ H.length es 0 (y.l.map f).length (y.l.map f).length,H++[.row es (y.l.map f) false],H.length,[(H.length,.row es (y.l.map f) false)],cy,by simp;omega,?_,?_,aw.fill k hk⟩
    ·rw[n4]
     simp only[step,hb,w9];rw[hfz];simp only[bg,gq,if_false,pF,ha,oc,if_true]
    ·simp only[ec,jN,ae.map]
     exact .row _ _ (by simpa using hy) cy
   |row l ds hd hD=>
    have ec:s.l.map f=ds:=by cases s<;>simp_all [ae.map,ae.l]
    have hlen:s.l.length=ds.length:=by rw[<-ec,eL]
    have ba:=aw.get k hk;have aT:=sI ba;refine⟨.bJ l es 0 (ds++y.l.map f).length (ds++y.l.map f).length,H.set l (.row es (ds++y.l.map f) false),l,[(l,.row es (ds++y.l.map f) false)],hD,by simpa using cy,?_,?_,aw.put k hk⟩
    ·rw[n4]
     simp only[step,hb,w9];rw[hfz];simp only[bg,gq,if_false,pF,ha,ba,eZ];rw[if_pos ⟨trivial,trivial,trivial,trivial,trivial,by rw[hlen]at ea;simpa using ea⟩,uU (vR aT)]
     done
    ·show fe b es _ (.mk ((s.l++y.l).map f)) _
     rw[kk,ec];exact .row _ _ (by simp[hd]) hD
  ·cases hs
theorem aus{α:Type}{es bytes b:Nat}{f:α->V}{s y ao:ae α}{dB fP:aj}{dC:V}{m:List (Nat × b5)}{ms:cG}{H:Heap}{ah:aj->V}(cy:b<=H.length)(k:Nat)
  (hs:gz bytes s y=some ao) (aw:Own H ms) (hk:ms[k]? =some m) (hr:fE b es f dC s m) (ha:ah dB=dC) (hb:elems H es (ah fP)=some (y.l.map f)) (hp:∀a,bI (f a)=true) (hc:∀a,bL (aC (f a))=true):
  ∃v' H1 bO m',b<=bO/\b<=H1.length/\cc (b0 aa) ah H H.length (.append es bytes dB fP)=some (v',H1,bO)/\fE b es f v' ao m'/\Own H1 (ms.set k m'):=by
 have oR:ms.set k m=ms:=by
  apply oA;intro i;by_cases e:k=i
  ·subst e;rw[nI (fj.1 hk).1,hk]
  ·rw[jx e]
 have hfz:e0 H H.length (y.l.map f)=some (y.l.map f,H,H.length):=vk (ua hp _);have ry:=xa hc y.l;unfold gz at hs;by_cases hy:y.l=[]
 ·rw[if_pos hy]at hs
  cases hs;refine⟨dC,H,H.length,m,cy,cy,?_,hr,by rw[oR];exact aw⟩;rw[n4];simp only[step,hb];rw[hfz,hy];simp only[iT,Oq,if_true,ha];have dj:fe b es dC (s.map f) m:=hr;generalize oW:s.map f=hS at dj;cases dj with
  |nil=>rfl
  |emp=>rfl
  |row l ds h hD=>simp[aw.get k hk]
 ·rw[if_neg hy]at hs
  split at hs
  ·rename_i ea
   cases hs
   have bg:(y.l.map f).isEmpty=false:=by cases vl:y.l with
    |nil=>exact absurd vl hy
    |cons=>rfl
   have pF:(bL ((y.l.map f).flatMap aC)=false)=False:=by rw[ry];simp
   have dj:fe b es dC (s.map f) m:=hr;generalize oW:s.map f=hS at dj;cases dj with
   |nil=>
    have ec:s.l=[]:=by cases s<;>simp_all [ae.map,ae.l]
    have oc:(y.l.map f).length*(bytes+1)<=2^40:=by simpa[ec]using ea
    refine⟨.bJ H.length es 0 (y.l.map f).length (y.l.map f).length,H++[.row es (y.l.map f) false],H.length,[(H.length,.row es (y.l.map f) false)],cy,by simp;omega,?_,?_,aw.fill k hk⟩
    ·rw[n4]
     simp only[step,hb];rw[hfz];simp only[bg,gq,if_false,pF,ha,oc,if_true]
    ·simp only[ec,jN,ae.map]
     exact .row _ _ (by simpa using hy) cy
   |emp=>
    have ec:s.l=[]:=by cases s<;>simp_all [ae.map,ae.l]
    have oc:(y.l.map f).length*(bytes+1)<=2^40:=by simpa[ec]using ea
    refine⟨.bJ H.length es 0 (y.l.map f).length (y.l.map f).length,H++[.row es (y.l.map f) false],H.length,[(H.length,.row es (y.l.map f) false)],cy,by simp;omega,?_,?_,aw.fill k hk⟩
    ·rw[n4]
     simp only[step,hb];rw[hfz];simp only[bg,gq,if_false,pF,ha,oc,if_true]
    ·simp only[ec,jN,ae.map]
     exact .row _ _ (by simpa using hy) cy
   |row l ds hd hD=>
    have ec:s.l.map f=ds:=by cases s<;>simp_all [ae.map,ae.l]
    have hlen:s.l.length=ds.length:=by rw[<-ec,eL]
    have ba:=aw.get k hk;have aT:=sI ba;refine⟨.bJ l es 0 (ds++y.l.map f).length (ds++y.l.map f).length,H.set l (.row es (ds++y.l.map f) false),l,[(l,.row es (ds++y.l.map f) false)],hD,by simpa using cy,?_,?_,aw.put k hk⟩
    ·rw[n4]
     simp only[step,hb];rw[hfz];simp only[bg,gq,if_false,pF,ha,ba,eZ];rw[if_pos ⟨trivial,trivial,trivial,trivial,trivial,by rw[hlen]at ea;simpa using ea⟩,uU (vR aT)]
     done
    ·show fe b es _ (.mk ((s.l++y.l).map f)) _
     rw[kk,ec];exact .row _ _ (by simp[hd]) hD
  ·cases hs
theorem ae0{α:Type}{es bytes:Nat}{f:α->V}{s y z:ae α}{dB fP:aj}{call:cW}{ah:aj->V}{H:Heap}{low:Nat}(hs:gz bytes s y=some z)(he:s=.nil\/s=.emp)(ha:ah dB=bn es f s)(hb:ah fP=bn es f y)(hp:∀a,bI (f a)=true)(hc:∀a,bL (aC (f a))=true):
  cc call ah H low (.ya es bytes dB fP)=some (bn es f z,H,low):=by
 show step ah H low (.ya es bytes dB fP)=_;have hfz:cj (y.l.map f)=true:=ua hp _;have ry:=xa hc y.l;simp only[step,hb,w9,hfz];unfold gz at hs;by_cases hy:y.l=[]
 ·rw[if_pos hy]at hs
  cases hs;rw[ha,hy];rcases he with rfl|rfl<;>simp[bn]
 ·rw[if_neg hy]at hs
  split at hs
  ·rename_i ea
   cases hs
   have bg:(y.l.map f).isEmpty=false:=by cases vl:y.l with
    |nil=>exact absurd vl hy
    |cons=>rfl
   have ec:s.l=[]:=by rcases he with rfl|rfl<;>rfl
   have oc:(y.l.map f).length*(bytes+1)<=2^40:=by simpa[ec]using ea
   rw[ha];rcases he with rfl|rfl<;>simp only[bn,bg,ry,oc,gq,if_false,and_self,if_true,Bool.true_eq_false,ec,jN]
  ·cases hs
end Go.Abs
namespace Go.Abs.gB
open Go Go.Abs
inductive aO (ax:Nat->Type):Type where
 |int (k:IntKind) (n:Int)
 |cw (b:Bool)
 |bo (i:Nat) (neg:Bool)
 |str (s:dn)
 |sl (t:Nat) (s:ae (ax t))
 |k (v:V)
 |agg (vs:List (aO ax))
 |aU (vs:List (aO ax))
 |dO (vs:List (aO ax)) (f:Nat)
 |ptr (o off:Nat)
 |row (o:Nat)
 |jt (o:Nat) (n:Int) (f:Nat)
 |lp (o:Nat) (a b:Int)
 |fn (i:Nat) (caps:List (aO ax))
 |fv (j:Nat)
 |lq
structure iQ where
 ax:Nat->Type
 es:Nat->Nat
 enc:(t:Nat)->ax t->V
 hS:(t:Nat)->ax t->Nat->aO ax
 yW:(t:Nat)->ax t->List Bool
 jd:(t:Nat)->aO ax->List Bool->Option (ax t)
 a7:Nat->Bool
 cr:Nat->Option Nat
 beq:(t:Nat)->ax t->ax t->Bool
 mp:Nat->Option (Nat × Nat)
 ae1:∀c p,mp c=some p->ax c=List (ax p.1 × ax p.2)
section
variable (U:iQ)(B:List Bool)(ρ:List V)(fs:List V)
inductive Bx:V->Nat->Nat->V->Prop
 |row (l es N a b:Nat) (h:a<b):Bx (.bJ l es 0 N N) a b (.bJ l es a (b-a) N)
 |ae2 (l es N a:Nat):Bx (.bJ l es 0 N N) a a (.list es [])
 |nil:Bx .aN 0 0 .aN
 |emp:Bx .emp 0 0 .emp
mutual
inductive b3:aO U.ax->V->Prop
 |int {k:IntKind} {n:Int}:b3 (.int k n) (.int k n)
 |cw {b:Bool}:b3 (.cw b) (.bool b)
 |bo {i:Nat} {b neg:Bool} (h:B[i]? =some b):b3 (.bo i neg) (.bool (b != neg))
 |str {s:dn}:b3 (.str s) (.str s)
 |sl {t:Nat} {s:ae (U.ax t)}:b3 (.sl t s) (bn (U.es t) (U.enc t) s)
 |k {v:V}:b3 (.k v) v
 |agg {vs:List (aO U.ax)} {ws:List V} (h:bD vs ws):b3 (.agg vs) (.agg ws)
 |aU {vs:List (aO U.ax)} {ws:List V} (h:bD vs ws):b3 (.aU vs) (.aU ws)
 |dO {vs:List (aO U.ax)} {ws:List V} {f:Nat} (h:bD vs ws):b3 (.dO vs f) (.dO ws f)
 |ptr {o off a:Nat} (h:ρ[o]? =some (.ptr a 0)):b3 (.ptr o off) (.ptr a off)
 |row {o:Nat} {v:V} (h:ρ[o]? =some v):b3 (.row o) v
 |jt {o f l es N:Nat} {n:Int} (h:ρ[o]? =some (.bJ l es 0 N N)):b3 (.jt o n f) (.hz l es n.toNat f N)
 |lp {o:Nat} {a b:Int} {v w:V} (h:ρ[o]? =some v) (hw:Bx v a.toNat b.toNat w):b3 (.lp o a b) w
 |fn {i:Nat} {cs:List (aO U.ax)} {ws:List V} (h:bD cs ws):b3 (.fn i cs) (.fn i [] ws)
 |fv {j:Nat} {v:V} (h:fs[j]? =some v):b3 (.fv j) v
 |lq {v:V}:b3 .lq v
inductive bD:List (aO U.ax)->List V->Prop
 |nil:bD [] []
 |cons {v:aO U.ax} {w:V} {vs:List (aO U.ax)} {ws:List V} (h:b3 v w) (r:bD vs ws):bD (v::vs) (w::ws)
end
end
section
variable{U:iQ}{B uq:List Bool}{ρ cS fs:List V}
theorem lN{α:Type}{l fk:List α}(h:l <+: fk){i:Nat}{a:α}(hi:l[i]? =some a):fk[i]? =some a:=by
 obtain⟨t,rfl⟩:=h;rw[e5 (fj.1 hi).1];exact hi
mutual
theorem b3.mono (dc:B <+: uq)(aP:ρ <+: cS):∀{v:aO U.ax} {w:V},b3 U B ρ fs v w->b3 U uq cS fs v w
 | _,_,.int=>.int
 | _,_,.cw=>.cw
 | _,_,.bo h=>.bo (lN dc h)
 | _,_,.str=>.str
 | _,_,.sl=>.sl
 | _,_,.k=>.k
 | _,_,.agg h=>.agg (bD.mono dc aP h)
 | _,_,.aU h=>.aU (bD.mono dc aP h)
 | _,_,.dO h=>.dO (bD.mono dc aP h)
 | _,_,.ptr h=>.ptr (lN aP h)
 | _,_,.row h=>.row (lN aP h)
 | _,_,.jt h=>.jt (lN aP h)
 | _,_,.lp h q=>.lp (lN aP h) q
 | _,_,.fn h=>.fn (bD.mono dc aP h)
 | _,_,.fv h=>.fv h
 | _,_,.lq=>.lq
theorem bD.mono (dc:B <+: uq)(aP:ρ <+: cS):∀{vs:List (aO U.ax)} {ws:List V},bD U B ρ fs vs ws->bD U uq cS fs vs ws
 | _,_,.nil=>.nil
 | _,_,.cons h r=>.cons (b3.mono dc aP h) (bD.mono dc aP r)
end
mutual
theorem b3.back (dc:B <+: uq)(aP:ρ <+: cS):∀{v:aO U.ax} {w w':V},b3 U B ρ fs v w->b3 U uq cS fs v w'->b3 U B ρ fs v w'
 | _,_,_,.int,.int=>.int
 | _,_,_,.cw,.cw=>.cw
 | _,_,_,.bo h,.bo h'=>by
   have:=lN dc h;rw[h']at this;cases this;exact .bo h
 | _,_,_,.str,.str=>.str
 | _,_,_,.sl,.sl=>.sl
 | _,_,_,.k,.k=>.k
 | _,_,_,.agg h,.agg h'=>.agg (bD.back dc aP h h')
 | _,_,_,.aU h,.aU h'=>.aU (bD.back dc aP h h')
 | _,_,_,.dO h,.dO h'=>.dO (bD.back dc aP h h')
 | _,_,_,.ptr h,.ptr h'=>by
   have:=lN aP h;rw[h']at this;cases this;exact .ptr h
 | _,_,_,.row h,.row h'=>by
   have:=lN aP h;rw[h']at this;cases this;exact .row h
 | _,_,_,.jt h,.jt h'=>by
   have:=lN aP h;rw[h']at this;cases this;exact .jt h
 | _,_,_,.lp h _,.lp h' q=>by
   have:=lN aP h;rw[h']at this;cases this;exact .lp h q
 | _,_,_,.fn h,.fn h'=>.fn (bD.back dc aP h h')
 | _,_,_,.fv h,.fv h'=>.fv h'
 | _,_,_,.lq,.lq=>.lq
theorem bD.back (dc:B <+: uq)(aP:ρ <+: cS):∀{vs:List (aO U.ax)} {ws eK:List V},bD U B ρ fs vs ws->bD U uq cS fs vs eK->bD U B ρ fs vs eK
 | _,_,_,.nil,.nil=>.nil
 | _,_,_,.cons h r,.cons h' o9=>.cons (b3.back dc aP h h') (bD.back dc aP r o9)
end
theorem bD.length{vs:List (aO U.ax)}{ws:List V}:bD U B ρ fs vs ws->vs.length=ws.length
 | .nil=>rfl
 | .cons _ r=>by simp[r.length]
theorem bD.get{vs:List (aO U.ax)}{ws:List V}:bD U B ρ fs vs ws->∀{i:Nat} {v:aO U.ax},vs[i]? =some v->∃w,ws[i]? =some w/\b3 U B ρ fs v w
 | .nil,_,_,h=>by simp at h
 | .cons h r,0,_,e=>by simp at e;subst e;exact⟨_,rfl,h⟩
 | .cons h r,i+1,_,e=>by
   simp at e;obtain⟨w,af,ak⟩:=r.get e;exact⟨w,by simpa using af,ak⟩
theorem bD.drop{vs:List (aO U.ax)}{ws:List V}:bD U B ρ fs vs ws->∀i,bD U B ρ fs (vs.drop i) (ws.drop i)
 | .nil,i=>by cases i<;>exact .nil
 | .cons h r,0=>.cons h r
 | .cons h r,i+1=>r.drop i
theorem bD.take{vs:List (aO U.ax)}{ws:List V}:bD U B ρ fs vs ws->∀i,bD U B ρ fs (vs.take i) (ws.take i)
 | .nil,i=>by cases i<;>exact .nil
 | .cons h r,0=>.nil
 | .cons h r,i+1=>.cons h (r.take i)
theorem bD.set{vs:List (aO U.ax)}{ws:List V}:bD U B ρ fs vs ws->∀(i:Nat) {v:aO U.ax} {w:V},b3 U B ρ fs v w->bD U B ρ fs (vs.set i v) (ws.set i w)
 | .nil,i,_,_,_=>by cases i<;>exact .nil
 | .cons h r,0,_,_,h'=>.cons h' r
 | .cons h r,i+1,_,_,h'=>.cons h (r.set i h')
theorem bD.app{vs vs':List (aO U.ax)}{ws eK:List V}:bD U B ρ fs vs ws->bD U B ρ fs vs' eK->bD U B ρ fs (vs++vs') (ws++eK)
 | .nil,h=>h
 | .cons h r,h'=>.cons h (r.app h')
end
structure gp (U:iQ):Prop where
 hS:∀(t:Nat) (x:U.ax t) (B:List Bool) (ρ fs:List V),b3 U (B++U.yW t x) ρ fs (U.hS t x B.length) (U.enc t x)
 jd:∀(t:Nat) (v:aO U.ax) (B:List Bool) (ρ fs:List V) (w:V) (x:U.ax t),b3 U B ρ fs v w->U.jd t v B=some x->w=U.enc t x
 bI:∀(t:Nat) (x:U.ax t),bI (U.enc t x)=true
 ok:∀(t:Nat) (x:U.ax t),bL (aC (U.enc t x))=true
 es:∀(t:Nat) (x:U.ax t),(aC (U.enc t x)).length=U.es t
 a7:∀(t:Nat) (x:U.ax t),U.a7 t=true->flat (U.enc t x)=true
 ae3:∀(t n:Nat),U.cr t=some n->∀a c:U.ax t,iK n (U.enc t a) (U.enc t c)=some (U.beq t a c)
def bj{α:Type}:List (Nat × α)->Nat->Option α
 |[],_=>none
 |(k,a)::r,t=>match Nat.beq k t with
  |true=>some a
  |false=>bj r t
def nth{α:Type}:List α->Nat->Option α
 |[],_=>none
 |a::_,0=>some a
 | _::r,n+1=>nth r n
theorem xl{α:Type}:∀(l:List α) (n:Nat),nth l n=l[n]?
 |[],_=>by simp[nth]
 | _::_,0=>rfl
 | _::r,n+1=>by simp[nth,xl r n]
theorem fZ{α:Type}(k t:Nat)(a:α)(r:List (Nat × α)):bj ((k,a)::r) t=if k=t then some a else bj r t:=by
 simp only[bj];cases hb:Nat.beq k t with
 |true=>rw[if_pos (eE hb)]
 |false=>rw[if_neg (fun e=>by rw[e,zM]at hb;cases hb)]
theorem Es{α:Type}(l r:List (Nat × α))(t:Nat):bj (l++r) t=match bj l t with
  |some a=>some a
  |none=>bj r t:=by
 induction l with
 |nil=>rfl
 |cons p l ih=>
  obtain⟨k,a⟩:=p;rw[mi,fZ,fZ];by_cases e:k=t
  ·rw[if_pos e,if_pos e]
  ·rw[if_neg e,if_neg e];exact ih
def mem (t:Nat):List Nat->Bool
 |[]=>false
 |k::r=>match Nat.beq k t with
  |true=>true
  |false=>mem t r
theorem mem_iff (t:Nat):∀l:List Nat,mem t l=true↔t∈l
 |[]=>by simp[mem]
 |k::r=>by
  simp only[mem,dx];cases hb:Nat.beq k t with
  |true=>simp[eE hb]
  |false=>
   have:¬t=k:=fun e=>by rw[e,zM]at hb;cases hb
   simp[this,mem_iff t r]
end Go.Abs.gB
namespace Go.Abs.gB
open Go Go.Abs
inductive ck (U:iQ) where
 |cells (w:Bool) (cs:List (aO U.ax))
 |row (t:Nat) (s:ae (U.ax t))
 |fz (t:Nat) (s:ae (U.ax t))
 |mp (k w:Nat) (m:List (U.ax k × U.ax w))
structure bA (U:iQ) where
 vs:List (Nat × aO U.ax)
 mem:List (Nat × ck U)
 aD:Nat
 aK:List Bool
 dQ:List (Nat × Bool)
 dL:List Nat
 cI:List (Nat × Nat)
section
variable{U:iQ}
class aJ (A:Type) where
 bad:A
 br:Nat->Bool->A->A->A
 cv:{α:Type}->Option α->(α->A)->A
instance{R:Type}:aJ (Option R):=⟨none,fun _ c x y=>bif c then x else y,fun o f=>o.bind f⟩
inductive pQ (A:Type) where
 |leaf (a:A)
 |br (i:Nat) (c:Bool) (t e:pQ A)
 |bad
instance{R:Type}:aJ (pQ R):=⟨.bad,.br,fun _ _=>.bad⟩
mutual
def Ih:V->aO U.ax
 | .bool b=>.cw b
 | .int k n=>.int k n
 | .str s=>.str s
 | .agg vs=>.agg (Et vs)
 |v=>.k v
def Et:List V->List (aO U.ax)
 |[]=>[]
 |v::r=>Ih v::Et r
end
def sT:aO U.ax->Option (List (aO U.ax))
 | .agg vs=>some vs
 | .lq| .fv _| .aU _| .row _| .jt .. | .lp .. =>none
 | .k v=>match v with
   | .agg _=>none
   |v=>some [.k v]
 |v=>some [v]
def Mw:aO U.ax->Bool
 | .int .. | .cw _| .bo .. | .str _| .sl .. | .ptr .. | .fn .. =>true
 | .k v=>eF v
 | _=>false
def Ii:List (aO U.ax)->Bool
 |[]=>true
 |v::r=>match Mw v with
  |true=>Ii r
  |false=>false
abbrev kO (U:iQ):=List (Nat × aO U.ax)
def ah (aq:kO U)(s:bA U):aj->Option (aO U.ax)
 | .tmp t=>bj aq t
 | .var t=>bj s.vs t
 | .const v=>some (Ih v)
 | .func i=>some (.fn i [])
def xm (aq:kO U)(s:bA U):List aj->Option (List (aO U.ax))
 |[]=>some []
 |x::r=>match ah aq s x with
  |some v=>match xm aq s r with
   |some l=>some (v::l)
   |none=>none
  |none=>none
def split{A:Type}[aJ A](s:bA U)(v:aO U.ax)(qG cC:bA U->A):A:=match v with
 | .cw true=>qG s
 | .cw false=>cC s
 | .bo i neg=>match bj s.dQ i with
   |some b=>match b,neg with
    |true,false=>qG s
    |false,true=>qG s
    | _,_=>cC s
   |none=>match nth s.aK i with
    |none=>aJ.bad
    |some c=>match neg with
     |false=>aJ.br i c (qG {s with dQ:=(i,true)::s.dQ}) (cC {s with dQ:=(i,false)::s.dQ})
     |true=>aJ.br i c (cC {s with dQ:=(i,true)::s.dQ}) (qG {s with dQ:=(i,false)::s.dQ})
 | _=>aJ.bad
def yX (s:bA U):aO U.ax->Option Bool
 | .cw b=>some b
 | .bo i neg=>match nth s.aK i with
   |some c=>match neg with
    |false=>some c
    |true=>some (!c)
   |none=>none
 | _=>none
def name{A:Type}[aJ A](s:bA U)(c:Bool)(neg:Bool)(k:aO U.ax->bA U->A):A:=k (.bo s.aK.length neg) {s with aK:=s.aK++[c]}
def elem{A:Type}[aJ A](t:Nat)(x:U.ax t)(s:bA U)(k:aO U.ax->bA U->A):A:=k (U.hS t x s.aK.length) {s with aK:=s.aK++U.yW t x}
def cut (cs:List (aO U.ax))(off:Nat):Option Nat->Option (aO U.ax)
 |none=>nth cs off
 |some n=>match Nat.ble (off+n) cs.length with
  |true=>some (.agg ((cs.drop off).take n))
  |false=>none
def vw (cs:List (aO U.ax))(o:Nat):List (aO U.ax)->List (aO U.ax)
 |[]=>cs
 |x::xs=>vw (cs.set o x) (o+1) xs
def bin{A:Type}[aJ A](s:bA U)(op:BinOp)(k:aO U.ax->bA U->A)(x y:aO U.ax):A:=match x,y with
 | .int bY a,.int Ij c=>match decide (bY=Ij)with
   |false=>aJ.bad
   |true=>match op with
    | .add=>k (.int bY (bY.wrap (a+c))) s
    | .sub=>k (.int bY (bY.wrap (a-c))) s
    | .mul=>k (.int bY (bY.wrap (a*c))) s
    | .eql=>name s (a==c) false k
    | .neq=>name s (a != c) false k
    | .lss=>name s (decide (a<c)) false k
    | .leq=>name s (decide (a<=c)) false k
    | .gtr=>name s (decide (a>c)) false k
    | .geq=>name s (decide (a>=c)) false k
    | .and=>k (.int bY (bY.wrap ((BitVec.ofInt bY.bits a &&& BitVec.ofInt bY.bits c).toNat))) s
    | .quo=>match bY with
      | .i64=>aJ.cv (G4 a c) fun q=>k (.int .i64 q) s
      | _=>aJ.bad
    | .rem=>match bY with
      | .i64=>aJ.cv (tZ a c) fun q=>k (.int .i64 q) s
      | _=>aJ.bad
    | _=>aJ.bad
 | .str a,.str c=>match op with
   | .add=>aJ.cv (ad3 a c) fun q=>k (.str q) s
   | .eql=>name s (a==c) false k
   | .neq=>name s (a != c) false k
   | _=>aJ.bad
 | _,_=>aJ.bad
def Sr{A:Type}[aJ A](s:bA U)(op:BinOp)(k:aO U.ax->bA U->A)(x:aO U.ax)(rF:IntKind)(c:Int):A:=match x with
 | .int bY a=>match op with
   | .shl=>match decide (0<=c/\c.toNat<=bY.bits)with
     |true=>k (.int bY (bY.wrap (a*2^c.toNat))) s
     |false=>aJ.bad
   | .shr=>match decide (0<=c/\c.toNat<=bY.bits)with
     |true=>k (.int bY (a/2^c.toNat)) s
     |false=>aJ.bad
   | .quo=>match decide (bY=rF/\0<c)with
     |true=>k (.int bY (bY.wrap (a.tdiv c))) s
     |false=>aJ.bad
   | .rem=>match decide (bY=rF/\0<c)with
     |true=>k (.int bY (a.tmod c)) s
     |false=>aJ.bad
   |op=>bin s op k x (.int rF c)
 | _=>bin s op k x (.int rF c)
def vx (s:bA U):List Nat->List (aO U.ax)->List (aO U.ax)->Option Bool
 |[],[],[]=>some true
 |n::ks,x::xs,y::cK=>match vx s ks xs cK with
  |none=>none
  |some e=>match n,x,y with
   |0,.int k a,.int bF c=>match decide (k=bF)with
    |true=>some ((a==c)&&e)
    |false=>none
   |1,.str a,.str c=>some ((a==c)&&e)
   |2,x,y=>match yX s x,yX s y with
    |some a,some c=>some ((a==c)&&e)
    | _,_=>none
   | _,_,_=>none
 | _,_,_=>none
def Mx (z:List (aO U.ax))(aq:kO U)(s:bA U):List (Nat × Nat × aj)->Option (List (aO U.ax))
 |[]=>some z
 |(off,n,x)::r=>match ah aq s x with
  |none=>none
  |some v=>match sT v with
   |none=>none
   |some cs=>match Nat.beq cs.length n,Nat.ble (off+n) z.length,Ii cs with
    |true,true,true=>Mx (vw z off cs) aq s r
    | _,_,_=>none
def My:Nat->List (Nat × aj)->Bool
 | _,[]=>true
 |n,p::r=>match Nat.beq p.1 n with
  |true=>My (n+1) r
  |false=>false
def Mz (t:Nat)(B:List Bool):List (aO U.ax)->Option (List (U.ax t))
 |[]=>some []
 |v::r=>match U.jd t v B with
  |none=>none
  |some x=>match Mz t B r with
   |none=>none
   |some l=>some (x::l)
def eD{ax:Nat->Type}(t:Nat):aO ax->Option (ae (ax t))
 | .sl ey s=>if h:ey=t then some (h ▸ s)else none
 | .k .aN=>some .nil
 | .k .emp=>some .emp
 | _=>none
def ae4 (z:List V):aO U.ax:=match z with
 |[v]=>Ih v
 |z=>.agg (Et z)
def MA (k w:Nat)(m:List (U.ax k × U.ax w))(x:U.ax k):Option (U.ax w):=@jq _ _ ⟨U.beq k⟩ m x
def aut (k w:Nat)(m:List (U.ax k × U.ax w))(x:U.ax k)(y:U.ax w):List (U.ax k × U.ax w):=@mM _ _ ⟨U.beq k⟩ m x y
def kindOf (k:Nat)(n:Nat):Bool:=match U.cr k with
 |some m=>Nat.beq m n
 |none=>false
def sU:aO U.ax->Option (aO U.ax)
 | .k .aN=>some (.k .aN)
 | .k .emp=>some (.k .emp)
 | .sl _ .nil=>some (.k .aN)
 | .sl _ .emp=>some (.k .emp)
 | _=>none
def Ik{A:Type}[aJ A](aq:kO U)(s:bA U)(ty:Option Nat)(k:aO U.ax->bA U->A):cV->A
 | .mv x=>match ah aq s x with
   |some v=>k v s
   |none=>aJ.bad
 | .pick c a b=>match ah aq s c with
   |some c=>split s c (fun s=>match ah aq s a with|some v=>k v s|none=>aJ.bad) (fun s=>match ah aq s b with|some v=>k v s|none=>aJ.bad)
   |none=>aJ.bad
 | .build z parts=>match Mx (Et z) aq s parts with
   |some cs=>k (.agg cs) s
   |none=>aJ.bad
 | .lit es z len parts jP=>match ty,jP with
   |some t,true=>match xm aq s (parts.map Prod.snd)with
    |none=>aJ.bad
    |some vs=>match Mz t s.aK vs,My 0 parts,Nat.beq vs.length len,Nat.beq (U.es t) es with
     |some l,true,true,true=>match l with
      |[]=>k (.sl t .emp) s
      |l=>k (.sl t (.mk l)) s
     | _,_,_,_=>aJ.bad
   | _,_=>aJ.bad
 | .load sh x=>match ah aq s x with
   |some (.dO cs f)=>match cut cs f sh with
    |some v=>k v s
    |none=>aJ.bad
   |some (.ptr o f)=>match bj s.mem o with
    |some (.cells _ cs)=>match cut cs f sh with
     |some v=>k v s
     |none=>aJ.bad
    | _=>aJ.bad
   |some (.jt o n f)=>match bj s.mem o with
    |some (.row t a)=>aJ.cv (bE a.l n) fun e=>elem t e s fun v s=>match sT v with
     |some cs=>match cut cs f sh with
      |some v=>k v s
      |none=>aJ.bad
     |none=>aJ.bad
    | _=>aJ.bad
   | _=>aJ.bad
 | .nilCheck x=>match ah aq s x with
   |some (.ptr o f)=>k (.ptr o f) s
   |some (.dO cs f)=>k (.dO cs f) s
   |some (.fn i cs)=>k (.fn i cs) s
   |some (.jt o n f)=>k (.jt o n f) s
   | _=>aJ.bad
 | .bin op x (.const (.int rF c))=>match ah aq s x with
   |some v=>Sr s op k v rF c
   |none=>aJ.bad
 | .bin op x y=>match ah aq s x,ah aq s y with
   |some v,some w=>bin s op k v w
   | _,_=>aJ.bad
 | .zO neg ks x y=>match ah aq s x,ah aq s y with
   |some (.agg a),some (.agg c)=>match vx s ks a c with
    |some e=>name s e neg k
    |none=>aJ.bad
   | _,_=>aJ.bad
 | .r5 kind neg x y=>match ah aq s x,ah aq s y with
   |some v,some w=>match kind,v,w with
    |1,.sl _ a,.k .aN=>name s a.isNil neg k
    |4,v,w=>match yX s v,yX s w with
     |some a,some c=>name s (a==c) neg k
     | _,_=>aJ.bad
    | _,_,_=>aJ.bad
   | _,_=>aJ.bad
 | .un op x=>match op,ah aq s x with
   | .not,some (.cw b)=>k (.cw (!b)) s
   | .not,some (.bo i neg)=>k (.bo i (!neg)) s
   | .neg,some (.int bY n)=>k (.int bY (bY.wrap (0-n))) s
   | _,_=>aJ.bad
 | .conv bY x=>match ah aq s x with
   |some (.int _ n)=>k (.int bY (bY.wrap n)) s
   | _=>aJ.bad
 | .vU mx x y=>match ah aq s x,ah aq s y with
   |some (.int bY a),some (.int Ij c)=>match decide (bY=Ij)with
    |true=>match mx with
     |true=>k (.int bY (max a c)) s
     |false=>k (.int bY (min a c)) s
    |false=>aJ.bad
   | _,_=>aJ.bad
 | .uY i [] cs=>match xm aq s cs with
   |some vs=>k (.fn i vs) s
   |none=>aJ.bad
 | .fieldAddr off x=>match ah aq s x with
   |some (.ptr o f)=>k (.ptr o (f+off)) s
   |some (.dO cs f)=>k (.dO cs (f+off)) s
   |some (.jt o n f)=>k (.jt o n (f+off)) s
   | _=>aJ.bad
 | .field off sh x=>match ah aq s x with
   |some (.agg cs)=>match cut cs off sh with
    |some v=>k v s
    |none=>aJ.bad
   | _=>aJ.bad
 | .extract x i=>match ah aq s x with
   |some (.aU vs)=>match nth vs i with
    |some v=>k v s
    |none=>aJ.bad
   | _=>aJ.bad
 | .len kind x=>match kind,ah aq s x with
   |0,some (.str a)=>k (.int .i64 (a.length:Int)) s
   |1,some (.sl _ a)=>k (.int .i64 a.len) s
   |1,some (.row o)=>match bj s.mem o with
    |some (.row _ a)=>k (.int .i64 a.len) s
    | _=>aJ.bad
   |2,some (.row o)=>match bj s.mem o with
    |some (.mp _ _ m)=>k (.int .i64 (m.length:Int)) s
    | _=>aJ.bad
   |1,some (.k .aN)=>k (.int .i64 0) s
   |1,some (.k .emp)=>k (.int .i64 0) s
   | _,_=>aJ.bad
 | .indexAddr es x i=>match ah aq s x,ah aq s i with
   |some (.sl t a),some (.int _ n)=>match Nat.beq (U.es t) es with
    |true=>aJ.cv (bE a.l n) fun e=>elem t e s fun v s=>match sT v with
     |some cs=>k (.dO cs 0) s
     |none=>aJ.bad
    |false=>aJ.bad
   |some (.row o),some (.int _ n)=>match bj s.mem o with
    |some (.row t a)=>match Nat.beq (U.es t) es with
     |true=>aJ.cv (bE a.l n) fun _=>k (.jt o n 0) s
     |false=>aJ.bad
    | _=>aJ.bad
   | _,_=>aJ.bad
 | .r6 x i=>match ah aq s x,ah aq s i with
   |some (.str a),some (.int _ n)=>aJ.cv (bE a n) fun c=>k (.int .u8 (c.toNat:Int)) s
   | _,_=>aJ.bad
 | .qX x lo hi=>match ah aq s x with
   |some (.str a)=>match lo.map (ah aq s),hi.map (ah aq s)with
    |none,none=>aJ.cv (sK a 0 (a.length:Int)) fun q=>k (.str q) s
    |some (some (.int .i64 n)),none=>aJ.cv (sK a n (a.length:Int)) fun q=>k (.str q) s
    |none,some (some (.int .i64 m))=>aJ.cv (sK a 0 m) fun q=>k (.str q) s
    |some (some (.int .i64 n)),some (some (.int .i64 m))=>aJ.cv (sK a n m) fun q=>k (.str q) s
    | _,_=>aJ.bad
   | _=>aJ.bad
 | .lookup kind z x i ok=>match ah aq s x,ah aq s i with
   |some (.row o),some v=>match bj s.mem o with
    |some (.mp eI kc m)=>match U.jd eI v s.aK,U.jd kc (Ih z) s.aK,kindOf (U:=U) eI kind with
     |some x,some z,true=>match ok with
      |false=>elem kc ((MA eI kc m x).getD z) s k
      |true=>elem kc ((MA eI kc m x).getD z) s fun v s=>name s (MA eI kc m x).isSome false fun b s=>k (.aU [v,b]) s
     | _,_,_=>aJ.bad
    | _=>aJ.bad
   | _,_=>aJ.bad
 | .ti es x lo hi none=>match ah aq s x with
   |some (.row o)=>match bj s.mem o with
    |some (.row t a)=>match Nat.beq (U.es t) es with
     |true=>match lo.map (ah aq s),hi.map (ah aq s)with
      |some (some (.int .i64 n)),none=>aJ.cv (l6 a n a.len) fun _=>k (.lp o n a.len) s
      |none,some (some (.int .i64 m))=>aJ.cv (l6 a 0 m) fun _=>k (.lp o 0 m) s
      | _,_=>aJ.bad
     |false=>aJ.bad
    | _=>aJ.bad
   |some (.sl t a)=>match Nat.beq (U.es t) es with
    |true=>match lo.map (ah aq s),hi.map (ah aq s)with
     |none,none=>aJ.cv (l6 a 0 a.len) fun q=>k (.sl t q) s
     |some (some (.int .i64 n)),none=>aJ.cv (l6 a n a.len) fun q=>k (.sl t q) s
     |none,some (some (.int .i64 m))=>aJ.cv (l6 a 0 m) fun q=>k (.sl t q) s
     |some (some (.int .i64 n)),some (some (.int .i64 m))=>aJ.cv (l6 a n m) fun q=>k (.sl t q) s
     | _,_=>aJ.bad
    |false=>aJ.bad
   | _=>aJ.bad
 | .ya es bytes a b=>match ah aq s a,ah aq s b with
   |some x,some (.sl t y)=>match Nat.beq (U.es t) es,sU x with
    |true,some (.k .aN)=>aJ.cv (gz bytes .nil y) fun z=>k (.sl t z) s
    |true,some (.k .emp)=>aJ.cv (gz bytes .emp y) fun z=>k (.sl t z) s
    | _,_=>aJ.bad
   | _,_=>aJ.bad
 | _=>aJ.bad
end
end Go.Abs.gB
namespace Go.Abs.gB
open Go Go.Abs
inductive ma where
 |v (t:Nat)
 |f (dU:List Nat) (rt:Nat)
 deriving DecidableEq
section
variable (U:iQ)
def ee:List Nat->Type
 |[]=>Unit
 |a::r=>match r with
  |[]=>U.ax a
  | _::_=>U.ax a × ee r
def auu:ma->Type
 | .v t=>U.ax t
 | .f dU rt=>ee U dU->Option (U.ax rt)
def o0:List ma->Type
 |[]=>Unit
 |a::r=>auu U a × o0 r
def Bz:List (List Nat)->Type
 |[]=>Unit
 |a::r=>match r with
  |[]=>ee U a
  | _::_=>cz (ee U a) (Bz r)
structure aX where
 id:Nat
 caps:List Nat
 args:List ma
 res:List Nat
 fn:ee U caps->o0 U args->Option (ee U res)
structure Il where
 dU:List Nat
 rt:Nat
 f:ee U dU->Option (U.ax rt)
structure oj where
 T:List (aX U)
 fv:List (Il U)
 ty:List (Nat × Nat)
 rG:List (Nat × Nat × Nat)
end
section
variable{U:iQ}{A:Type}[aJ A]
def yY{a:Nat}:(r:List Nat)->U.ax a->ee U r->ee U (a::r)
 |[],x,_=>x
 | _::_,x,y=>(x,y)
def pR{a:Nat}:(r:List Nat)->ee U (a::r)->U.ax a
 |[],x=>x
 | _::_,x=>x.1
def yZ{a:Nat}:(r:List Nat)->ee U (a::r)->ee U r
 |[],_=>()
 | _::_,x=>x.2
def MB:(dU:List Nat)->ee U dU->o0 U (dU.map ma.v)
 |[],_=>()
 | _::r,x=>(pR r x,MB r (yZ r x))
def rH (B:List Bool):(ts:List Nat)->List (aO U.ax)->Option (ee U ts)
 |[],[]=>some ()
 |t::ts,v::vs=>match U.jd t v B with
  |none=>none
  |some x=>match rH B ts vs with
   |none=>none
   |some l=>some (yY ts x l)
 | _,_=>none
def Ss (m:List (Nat × ck U)):aO U.ax->Option (aO U.ax)
 | .ptr o 0=>match bj m o with
   |some (.cells _ [c])=>match c with
    | .agg _=>none
    |c=>match sT c with
     |some _=>some c
     |none=>none
   |some (.cells _ cs)=>some (.agg cs)
   | _=>none
 | _=>none
def Im:List (aO U.ax)->List Nat->Bool
 |[],_=>true
 | .ptr o _::r,l=>match mem o l with
   |true=>false
   |false=>Im r (o::l)
 | _::_,_=>false
def BA:List ma->Bool
 |[]=>true
 | .v _::r=>BA r
 | .f .. ::_=>false
def Io (m:List (Nat × ck U)):List (aO U.ax)->Option (List (aO U.ax))
 |[]=>some []
 |v::r=>match Ss m v with
  |none=>none
  |some c=>match Io m r with
   |none=>none
   |some l=>some (c::l)
def xn:List (aX U)->Nat->Option (aX U)
 |[],_=>none
 |e::r,i=>match Nat.beq e.id i with
  |true=>some e
  |false=>xn r i
def St (cx:oj U)(s:bA U)(dU:List Nat)(rt:Nat):aO U.ax->Option (ee U dU->Option (U.ax rt))
 | .fv j=>match nth cx.fv j with
   |none=>none
   |some f=>if h:f.dU=dU/\f.rt=rt then some fun z=>h.2 ▸ f.f (h.1 ▸ z)else none
 | .fn i cs=>match xn cx.T i with
   |none=>none
   |some e=>match Io s.mem cs,Im cs []with
    |some vs,true=>match rH s.aK e.caps vs with
     |none=>none
     |some c=>if h:e.args=dU.map ma.v/\e.res=[rt]then some fun z=>(congrArg (fun l=>Option (ee U l)) h.2).mp (e.fn c (h.1 ▸ MB dU z))else none
    | _,_=>none
 | _=>none
def y0 (cx:oj U)(s:bA U):(ay:List ma)->List (aO U.ax)->Option (o0 U ay)
 |[],[]=>some ()
 | .v t::ay,v::vs=>match U.jd t v s.aK with
   |none=>none
   |some x=>match y0 cx s ay vs with
    |none=>none
    |some l=>some (x,l)
 | .f dU rt::ay,v::vs=>match St cx s dU rt v with
   |none=>none
   |some x=>match y0 cx s ay vs with
    |none=>none
    |some l=>some (x,l)
 | _,_=>none
def elems:(ts:List Nat)->ee U ts->bA U->(List (aO U.ax)->bA U->A)->A
 |[],_,s,k=>k [] s
 |t::ts,x,s,k=>elem t (pR ts x) s fun v s=>elems ts (yZ ts x) s fun vs s=>k (v::vs) s
def MC (ts:List Nat)(x:ee U ts)(s:bA U)(k:aO U.ax->bA U->A):A:=elems ts x s fun vs s=>match vs with
 |[v]=>k v s
 |vs=>k (.aU vs) s
def MD (cx:oj U)(s:bA U)(f:aO U.ax)(ay:List (aO U.ax))(k:aO U.ax->bA U->A):A:=match f with
 | .fv j=>match nth cx.fv j with
   |none=>aJ.bad
   |some f=>match rH s.aK f.dU ay with
    |none=>aJ.bad
    |some a=>aJ.cv (f.f a) fun r=>elem f.rt r s k
 | .fn i cs=>match xn cx.T i with
   |none=>aJ.bad
   |some e=>match Io s.mem cs,Im cs [],(match cs with|[]=>true| _=>BA e.args)with
    |some vs,true,true=>match rH s.aK e.caps vs with
     |none=>aJ.bad
     |some c=>match y0 cx s e.args ay with
      |none=>aJ.bad
      |some a=>aJ.cv (e.fn c a) fun r=>MC e.res r s k
    | _,_,_=>aJ.bad
 | _=>aJ.bad
def je (o:Nat)(b:ck U):List (Nat × ck U)->List (Nat × ck U)
 |[]=>[]
 |(k,c)::r=>match Nat.beq k o with
  |true=>(k,b)::r
  |false=>(k,c)::je o b r
def marks (o f:Nat):Nat->List (Nat × Nat)->List (Nat × Nat)
 |0,l=>l
 |n+1,l=>(o,f+n)::marks o f n l
def kP (s:bA U)(b:ck U):bA U:={s with mem:=(s.aD,b)::s.mem,aD:=s.aD+1}
def pS (o:Nat):List (Nat × ck U)->List (Nat × ck U)
 |[]=>[]
 |(k,c)::r=>match Nat.beq k o with
  |true=>r
  |false=>(k,c)::pS o r
def kd (o n:Nat)(b:ck U):List (Nat × ck U)->List (Nat × ck U)
 |[]=>[]
 |(k,c)::r=>match Nat.beq k o with
  |true=>(n,b)::r
  |false=>(k,c)::kd o n b r
def vy (f:List (Nat × ck U)->aO U.ax->Option (aO U.ax × List (Nat × ck U))):List (Nat × ck U)->List (aO U.ax)->Option (List (aO U.ax) × List (Nat × ck U))
 |m,[]=>some ([],m)
 |m,v::r=>match f m v with
  |none=>none
  |some (v',m)=>match vy f m r with
   |none=>none
   |some (l,m)=>some (v'::l,m)
def l7:Nat->List (Nat × ck U)->aO U.ax->Option (aO U.ax × List (Nat × ck U))
 |0,_,_=>none
 |n+1,m,v=>match v with
  | .row o=>match bj m o with
    |some (.row t x)=>some (.sl t x,je o (.fz t x) m)
    |some (.fz t x)=>some (.sl t x,m)
    | _=>none
  | .agg vs=>match vy (l7 n) m vs with
    |some (l,m)=>some (.agg l,m)
    |none=>none
  | .aU vs=>match vy (l7 n) m vs with
    |some (l,m)=>some (.aU l,m)
    |none=>none
  | .int k i=>some (.int k i,m)
  | .cw b=>some (.cw b,m)
  | .bo i b=>some (.bo i b,m)
  | .str b=>some (.str b,m)
  | .sl t x=>some (.sl t x,m)
  | .k v=>match bI v with
    |true=>some (.k v,m)
    |false=>none
  | _=>none
mutual
def auv:aO U.ax->Bool
 | .row _=>true
 | .agg vs=>ME vs
 | .aU vs=>ME vs
 | _=>false
def ME:List (aO U.ax)->Bool
 |[]=>false
 |v::r=>match auv v with
  |true=>true
  |false=>ME r
end
def Ip:List Nat->Bool
 |[]=>true
 |t::r=>match U.a7 t with
  |true=>Ip r
  |false=>false
def Su (cx:oj U)(s:bA U)(f:aO U.ax)(ay:List (aO U.ax))(k:aO U.ax->bA U->A):A:=match f with
 | .fn i []=>match xn cx.T i,vy (l7 16) s.mem ay with
   |some e,some (tl,_)=>match rH s.aK e.caps [],y0 cx s e.args tl,BA e.args with
    |some c,some a,true=>aJ.cv (e.fn c a) fun r=>MC e.res r s fun v s=>match Ip (U:=U) e.res with
     |true=>k v s
     |false=>match v with
      | .sl _ x=>aJ.br s.aK.length x.isNil (k (.k .aN) s) aJ.bad
      | _=>aJ.bad
    | _,_,_=>aJ.bad
   | _,_=>aJ.bad
 | _=>aJ.bad
def gone (m':List (Nat × ck U)):List (Nat × ck U)->List (Nat × Nat)
 |[]=>[]
 |(o,aV)::r=>match aV with
  | .row _ _=>match bj m' o with
    |some (.fz _ _)=>(o,0)::gone m' r
    | _=>gone m' r
  | _=>gone m' r
def Sv (cx:oj U)(s:bA U)(f:aO U.ax)(ay:List (aO U.ax))(k:aO U.ax->bA U->A):A:=match f with
 | .fn i []=>match xn cx.T i,vy (l7 16) s.mem ay with
   |some e,some (tl,m')=>match rH s.aK e.caps [],y0 cx s e.args tl,BA e.args with
    |some c,some a,true=>aJ.cv (e.fn c a) fun r=>MC e.res r s fun v ao=>k v {ao with mem:=m',cI:=gone m' s.mem++ao.cI}
    | _,_,_=>aJ.bad
   | _,_=>aJ.bad
 | _=>aJ.bad
def sV (s:bA U)(es bytes t:Nat)(x:ae (U.ax t))(o:Option Nat)(y:aO U.ax)(k:aO U.ax->bA U->Bool->A):A:=match Nat.beq (U.es t) es,eD t y with
 |true,some y=>aJ.cv (gz bytes x y) fun z=>match o with
  |some o=>k (.row s.aD) {s with mem:=kd o s.aD (.row t z) s.mem,aD:=s.aD+1,cI:=(o,0)::s.cI} true
  |none=>k (.row s.aD) (kP s (.row t z)) true
 | _,_=>aJ.bad
def MF (s:bA U)(es bytes t:Nat)(x:aO U.ax)(q:ae (U.ax t))(k:aO U.ax->bA U->Bool->A):A:=match x with
 | .row o=>match bj s.mem o with
   |some (.row ey x)=>sV s es bytes ey x (some o) (.sl t q) k
   | _=>aJ.bad
 |x=>match sU x with
  |some (.k .aN)=>sV s es bytes t .nil none (.sl t q) k
  |some (.k .emp)=>sV s es bytes t .emp none (.sl t q) k
  | _=>aJ.bad
def Sw:aj->aj->Bool
 | .tmp a,.tmp b=>Nat.beq a b
 | .var a,.var b=>Nat.beq a b
 | .const (.int _ a),.const (.int _ b)=>decide (a=b)
 | _,_=>false
def Sx:aO U.ax->Bool
 | .int .. | .cw _| .bo .. | .str _| .sl .. | .ptr .. | .fn .. =>true
 | .k v=>plainCell v
 | _=>false
def MG:List (aO U.ax)->Bool
 |[]=>true
 |v::r=>match Sx v with
  |true=>MG r
  |false=>false
def nz (w:aO U.ax)(f:Nat)(vs:List (aO U.ax)):Option (aO U.ax):=match w with
 | .agg cs=>match Nat.ble (f+vs.length) cs.length with
   |true=>some (.agg (vw cs f vs))
   |false=>none
 | .lq| .row _| .fv _| .k _| .jt .. | .lp .. =>none
 | _=>match f,vs with
   |0,[x]=>some x
   | _,_=>none
def xo (m:List (Nat × ck U))(o:Nat):Bool:=match bj m o with
 |some (.row ..)=>true
 | _=>false
def Sy (m:List (Nat × ck U)):aO U.ax->Option (List (aO U.ax))
 | .row o=>match xo m o with
   |true=>some [.row o]
   |false=>none
 |v=>sT v
def MH (m:List (Nat × ck U)):List (aO U.ax)->Bool
 |[]=>true
 |v::r=>match(match v with| .row o=>xo m o|v=>Mw v)with
  |true=>MH m r
  |false=>false
def Sz (aq:kO U)(s:bA U)(len:Nat)(parts:List (Nat × aj))(jP:Bool):Option (Nat × aj):=match len,parts,jP with
 |1,[(0,x)],true=>match ah aq s x with
  |some (.row o)=>some (o,x)
  | _=>none
 | _,_,_=>none
def ae5 (s:bA U)(p:Nat × Nat)(ay:List (aO U.ax))(k:aO U.ax->bA U->Bool->A):A:=match p.2 with
 |0=>match ay with
  |[.row o]=>match bj s.mem o with
   |some (.row t x)=>match Nat.beq t p.1 with
    |true=>aJ.cv (A9 x) fun z=>k (.k (.aU [])) {s with mem:=je o (.row t z) s.mem,cI:=(o,0)::s.cI} true
    |false=>aJ.bad
   | _=>aJ.bad
  |[.k .aN]=>k (.k (.aU [])) s true
  | _=>aJ.bad
 |1=>match ay with
  |[.row o,.int ae6 a,.int rF c]=>match bj s.mem o with
   |some (.row t x)=>match Nat.beq t p.1,decide (ae6=.i64),decide (rF=.i64)with
    |true,true,true=>aJ.cv (Ba x a c) fun z=>k (.sl t z) {s with mem:=pS o s.mem,cI:=(o,0)::s.cI} true
    | _,_,_=>aJ.bad
   | _=>aJ.bad
  | _=>aJ.bad
 | _=>match ay with
   |[v]=>match eD p.1 v with
    |some x=>aJ.cv (pI p.2 x) fun z=>k (.row s.aD) (kP s (.row p.1 z)) true
    |none=>aJ.bad
   | _=>aJ.bad
def oper (cx:oj U)(aq:kO U)(s:bA U)(d:Option (Nat × Bool))(k:aO U.ax->bA U->Bool->A):cV->A
 | .alloc z=>k (.ptr s.aD 0) (kP s (.cells true (Et z))) true
 | .box x=>match ah aq s x with
   |none=>aJ.bad
   |some v=>match sT v with
    |none=>aJ.bad
    |some cs=>match Ii cs with
     |true=>k (.ptr s.aD 0) (kP s (.cells true cs)) true
     |false=>aJ.bad
 | .store n x y=>match ah aq s x,ah aq s y with
   |some (.ptr o f),some v=>match bj s.mem o,Sy s.mem v with
    |some (.cells true cs),some vs=>match Nat.beq vs.length n,Nat.ble (f+n) cs.length,MH s.mem vs with
     |true,true,true=>k (.k .undef) {s with mem:=je o (.cells true (vw cs f vs)) s.mem,cI:=marks o f vs.length s.cI} true
     | _,_,_=>aJ.bad
    | _,_=>aJ.bad
   |some (.jt o i f),some v=>match bj s.mem o,sT v with
    |some (.row t a),some vs=>match Nat.beq vs.length n,MG vs with
     |true,true=>aJ.cv (bE a.l i) fun e=>elem t e s fun w s=>match nz w f vs with
      |none=>aJ.bad
      |some w=>match U.jd t w s.aK with
       |none=>aJ.bad
       |some e'=>k (.k .undef) {s with mem:=je o (.row t (pE a i e')) s.mem,cI:=(o,0)::s.cI} true
     | _,_=>aJ.bad
    | _,_=>aJ.bad
   | _,_=>aJ.bad
 | .append es bytes a b=>match ah aq s a,ah aq s b with
   |some x,some (.lp o lo hi)=>match bj s.mem o with
    |some (.row t y)=>aJ.cv (l6 y lo hi) fun q=>MF s es bytes t x q k
    | _=>aJ.bad
   |some x,some (.row o)=>match bj s.mem o with
    |some (.row t y)=>MF s es bytes t x y k
    | _=>aJ.bad
   |some (.row o),some y=>match bj s.mem o with
    |some (.row t x)=>sV s es bytes t x (some o) y k
    | _=>aJ.bad
   |some x,some (.sl t y)=>match sU x with
    |some (.k .aN)=>sV s es bytes t .nil none (.sl t y) k
    |some (.k .emp)=>sV s es bytes t .emp none (.sl t y) k
    | _=>aJ.bad
   | _,_=>aJ.bad
 | .mkSlice es z bytes l c=>match d with
   |some (q,_)=>match bj cx.ty q,Sw l c,ah aq s l with
    |some t,true,some (.int _ n)=>match Nat.beq (U.es t) es,U.jd t (ae4 z) []with
     |true,some e=>aJ.cv (A6 bytes e n) fun x=>k (.row s.aD) (kP s (.row t x)) true
     | _,_=>aJ.bad
    | _,_,_=>aJ.bad
   |none=>aJ.bad
 | .mkMap=>match d with
   |some (q,_)=>match bj cx.ty q with
    |some c=>match U.mp c with
     |some p=>k (.row s.aD) (kP s (.mp p.1 p.2 [])) true
     |none=>aJ.bad
    |none=>aJ.bad
   |none=>aJ.bad
 | .p8 kind x i y=>match ah aq s x,ah aq s i,ah aq s y with
   |some (.row o),some v,some w=>match bj s.mem o with
    |some (.mp eI kc m)=>match U.jd eI v s.aK,U.jd kc w s.aK,kindOf (U:=U) eI kind with
     |some x,some y,true=>k (.k .undef) {s with mem:=je o (.mp eI kc (aut eI kc m x y)) s.mem,cI:=(o,0)::s.cI} true
     | _,_,_=>aJ.bad
    | _=>aJ.bad
   | _,_,_=>aJ.bad
 | .call false f ay=>match ah aq s f,xm aq s ay with
   |some f,some ay=>match ME ay with
    |true=>match(match d with|some (q,_)=>bj cx.ty q|none=>none)with
     |some _=>Sv cx s f ay fun v s=>k v s true
     |none=>Su cx s f ay fun v s=>k v s false
    |false=>MD cx s f ay fun v s=>k v s false
   | _,_=>aJ.bad
 | .call true f ay=>match ah aq s f,xm aq s ay with
   |some (.fn i []),some ay=>match bj cx.rG i with
    |some p=>ae5 s p ay k
    |none=>aJ.bad
   | _,_=>aJ.bad
 | .lit es z len parts jP=>match Sz aq s len parts jP with
   |some (o,_)=>match d with
    |some (q,_)=>match bj cx.ty q,bj s.mem o with
     |some t,some (.row ey x)=>match U.jd t (.sl ey x) s.aK,Nat.beq (U.es t) es with
      |some e,true=>k (.sl t (.mk [e])) {s with mem:=pS o s.mem,cI:=(o,0)::s.cI} true
      | _,_=>aJ.bad
     | _,_=>aJ.bad
    |none=>aJ.bad
   |none=>Ik aq s (match d with|some (t,_)=>bj cx.ty t|none=>none) (fun v s=>k v s false) (.lit es z len parts jP)
 |op=>Ik aq s (match d with|some (t,_)=>bj cx.ty t|none=>none) (fun v s=>k v s false) op
def put (aq:kO U)(s:bA U)(v:aO U.ax):Option (Nat × Bool)->(kO U × bA U)
 |none=>(aq,s)
 |some (t,false)=>((t,v)::aq,s)
 |some (t,true)=>(aq,{s with vs:=(t,v)::s.vs,dL:=t::s.dL})
def so (cx:oj U):List bS->kO U->bA U->List Bool->(bA U->List Bool->A)->A
 |[],aq,s,wr,k=>k s wr.reverse
 |o::r,aq,s,wr,k=>
  let go:=fun s=>oper cx aq s o.dst (fun v s m=>match put aq s v o.dst with|(aq,s)=>so cx r aq s (m::wr) k) o.op;let skip:=fun s=>match put aq s (.aU []) o.dst with|(aq,s)=>so cx r aq s (false::wr) k
  match o.guard with
  |none=>go s
  |some (x,w)=>match ah aq s x with
   |none=>aJ.bad
   |some v=>match v with
    | .aU []=>skip s
    |v=>match w with
     |true=>split s v go skip
     |false=>split s v skip go
def SA (cx:oj U)(aq:kO U)(s:bA U)(d:Option (Nat × Bool))(k:aO U.ax->bA U->A):cV->A
 | .call false f ay=>match ah aq s f,xm aq s ay with
   |some f,some ay=>MD cx s f ay k
   | _,_=>aJ.bad
 |op=>Ik aq s (match d with|some (t,_)=>bj cx.ty t|none=>none) k op
def xp (cx:oj U):List bS->kO U->bA U->(kO U->bA U->A)->A
 |[],aq,s,k=>k aq s
 |o::r,aq,s,k=>
  let fin:=fun v s=>match put aq s v o.dst with|(aq,s)=>xp cx r aq s k
  let go:=fun s=>SA cx aq s o.dst fin o.op
  match o.guard with
  |none=>go s
  |some (x,w)=>match ah aq s x with
   |none=>aJ.bad
   |some v=>match v with
    | .aU []=>fin (.aU []) s
    |v=>match w with
     |true=>split s v go (fin (.aU []))
     |false=>split s v (fin (.aU [])) go
inductive Loc where
 |s (t:Nat)
 |m (o j:Nat)
inductive auw (U:iQ) where
 |p (t:Nat)
 |c (v:aO U.ax)
 |r (t:Nat)
 |d
abbrev nB (U:iQ):=List (Loc × auw U)
def jf:nB U->List Nat
 |[]=>[]
 |(_,.p t)::r=>t::jf r
 |(_,.c _)::r=>jf r
 |(_,.r t)::r=>t::jf r
 |(_,.d)::r=>jf r
def at_ (s:bA U):Loc->Option (aO U.ax)
 | .s t=>bj s.vs t
 | .m o j=>match bj s.mem o with
   |some (.cells _ cs)=>nth cs j
   | _=>none
mutual
def same:aO U.ax->aO U.ax->Bool
 | .cw a,.cw b=>match a,b with
   |true,true=>true
   |false,false=>true
   | _,_=>false
 | .bo i n,.bo j m=>match Nat.beq i j,n,m with
   |true,true,true=>true
   |true,false,false=>true
   | _,_,_=>false
 | .int k a,.int bF b=>match decide (k=bF)with
   |true=>decide (a=b)
   |false=>false
 | .k v,.k w=>dS v w
 | .ptr o f,.ptr o' ml=>match Nat.beq o o' with
   |true=>Nat.beq f ml
   |false=>false
 | .fv j,.fv wC=>Nat.beq j wC
 | .fn i cs,.fn CL cs'=>match Nat.beq i CL with
   |true=>BB cs cs'
   |false=>false
 | .agg cs,.agg cs'=>BB cs cs'
 | .str a,.str b=>decide (a=b)
 | _,_=>false
def BB:List (aO U.ax)->List (aO U.ax)->Bool
 |[],[]=>true
 |a::r,b::s=>match same a b with
  |true=>BB r s
  |false=>false
 | _,_=>false
end
mutual
def wf (n m:Nat):aO U.ax->Bool
 | .bo i _=>Nat.blt i n
 | .ptr o _=>Nat.blt o m
 | .row o=>Nat.blt o m
 | .jt o _ _=>Nat.blt o m
 | .lp o _ _=>Nat.blt o m
 | .agg vs=>BC n m vs
 | .aU vs=>BC n m vs
 | .dO vs _=>BC n m vs
 | .fn _ cs=>BC n m cs
 | _=>true
def BC (n m:Nat):List (aO U.ax)->Bool
 |[]=>true
 |v::r=>match wf n m v with
  |true=>BC n m r
  |false=>false
end
def rI (o j:Nat):List (Nat × Nat)->Bool
 |[]=>false
 |(a,b)::r=>match Nat.beq a o,Nat.beq b j with
  |true,true=>true
  | _,_=>rI o j r
def SB (c eI kc:Nat)(x:List (U.ax eI × U.ax kc)):Option (U.ax c):=match h:U.mp c with
 |none=>none
 |some p=>if e:p=(eI,kc)then some ((U.ae1 c (eI,kc) (h.trans (congrArg some e))).symm ▸ x)else none
def MI (c:Nat)(v:aO U.ax):Option (U.ax c):=match U.mp c with
 |some _=>none
 |none=>U.jd c v []
def rowAt (c:Nat)(x:U.ax c):Option (ck U):=match h:U.mp c with
 |some p=>some (.mp p.1 p.2 (U.ae1 c p h ▸ x))
 |none=>match U.hS c x 0 with
  | .sl t y=>some (.row t y)
  | _=>none
def o1 (n m:Nat)(M:List (Nat × Nat))(s:bA U)(u:List Nat):(sh:nB U)->Option (ee U (jf sh))
 |[]=>some ()
 |(l,.p t)::r=>match at_ s l with
  |none=>none
  |some v=>match U.jd t v s.aK with
   |none=>none
   |some x=>match o1 n m M s u r with
    |none=>none
    |some y=>some (yY (jf r) x y)
 |(l,.c v)::r=>match at_ s l with
  |none=>none
  |some w=>match same w v,wf n m v with
   |true,true=>o1 n m M s u r
   | _,_=>none
 |(_,.d)::r=>o1 n m M s u r
 |(l,.r c)::r=>match at_ s l with
  |none=>none
  |some v=>match v with
   | .row o=>match bj s.mem o,mem o u,(match Nat.ble m o with|true=>true|false=>rI o 0 M)with
     |some (.row t x),false,true=>match MI c (.sl t x)with
      |none=>none
      |some x=>match o1 n m M s (o::u) r with
       |none=>none
       |some y=>some (yY (jf r) x y)
     |some (.mp eI kc x),false,true=>match SB c eI kc x with
      |none=>none
      |some x=>match o1 n m M s (o::u) r with
       |none=>none
       |some y=>some (yY (jf r) x y)
     | _,_,_=>none
   |v=>match sU v with
    |none=>none
    |some v=>match MI c v with
     |none=>none
     |some x=>match o1 n m M s u r with
      |none=>none
      |some y=>some (yY (jf r) x y)
def kQ (s:bA U)(l:Loc)(v:aO U.ax):bA U:=match l with
 | .s t=>{s with vs:=(t,v)::s.vs}
 | .m o j=>match bj s.mem o with
   |some (.cells w cs)=>{s with mem:=je o (.cells w (cs.set j v)) s.mem}
   | _=>s
def rJ:(sh:nB U)->ee U (jf sh)->bA U->bA U
 |[],_,s=>s
 |(l,.p t)::r,x,s=>rJ r (yZ (jf r) x) (kQ {s with aK:=s.aK++U.yW t (pR (jf r) x)} l (U.hS t (pR (jf r) x) s.aK.length))
 |(l,.c v)::r,x,s=>rJ r x (kQ s l v)
 |(_,.d)::r,x,s=>rJ r x s
 |(l,.r c)::r,x,s=>rJ r (yZ (jf r) x) (match rowAt c (pR (jf r) x)with
  |some aV=>kQ (kP s aV) l (.row s.aD)
  |none=>s)
def iB:nB U->List (Nat × Nat)
 |[]=>[]
 |(.m o j,_)::r=>(o,j)::iB r
 | _::r=>iB r
def sW (o:Nat)(M:List (Nat × Nat)):Nat->List (aO U.ax)->List (aO U.ax)
 | _,[]=>[]
 |j,c::r=>(match rI o j M with
  |true=>.lq
  |false=>c)::sW o M (j+1) r
def rK (M:List (Nat × Nat)):List (Nat × ck U)->List (Nat × ck U)
 |[]=>[]
 |(o,b)::r=>match b with
  | .cells w cs=>(o,.cells w (sW o M 0 cs))::rK M r
  |b=>match rI o 0 M with
   |true=>rK M r
   |false=>(o,b)::rK M r
def blank (W:List Nat)(M:List (Nat × Nat))(s:bA U):bA U:={s with vs:=(W.map fun t=>(t,.lq))++s.vs,mem:=rK M s.mem}
def fV:nB U->List Nat
 |[]=>[]
 |(.s t,_)::r=>t::fV r
 | _::r=>fV r
def enter (W:List Nat)(M:List (Nat × Nat))(sh:nB U)(x:ee U (jf sh))(s:bA U):bA U:=
 {rJ sh x (blank (fV sh++W) (M++iB sh) s)with dQ:=[],dL:=fV sh++(W++s.dL),cI:=M++(iB sh++s.cI)}
def Iq (W:List Nat):List Nat->Bool
 |[]=>true
 |t::r=>match mem t W with
  |true=>Iq W r
  |false=>false
def Ir (n:Nat)(M:List (Nat × Nat)):List (Nat × Nat)->Bool
 |[]=>true
 |(o,c)::r=>match Nat.ble n o with
  |true=>Ir n M r
  |false=>match rI o c M with
   |true=>Ir n M r
   |false=>false
def Eu (n m:Nat)(W:List Nat)(M:List (Nat × Nat))(sh:nB U)(s:bA U):Option (ee U (jf sh)):=match Iq W s.dL with
 |false=>none
 |true=>match Ir m (M++iB sh) s.cI with
  |true=>o1 n m (M++iB sh) s [] sh
  |false=>none
abbrev y1 (U:iQ):=List (X × nB U)
def BD:y1 U->List (List Nat)
 |[]=>[]
 |(_,sh)::r=>jf sh::BD r
def MJ:X->X->Bool
 | .normal,.normal=>true
 | .ret,.ret=>true
 | .exit i,.exit j=>Nat.beq i j
 | _,_=>false
def BF (n m:Nat)(W:List Nat)(M:List (Nat × Nat))(x:X)(s:bA U):(os:y1 U)->Option (Bz U (BD os))
 |[]=>none
 |(fQ,sh)::r=>match r with
  |[]=>match MJ x fQ with
   |true=>Eu n m W M sh s
   |false=>none
  |q::r=>match MJ x fQ with
   |true=>match Eu n m W M sh s with
    |some y=>some (cz.go y)
    |none=>none
   |false=>match BF n m W M x s (q::r)with
    |some y=>some (cz.ret y)
    |none=>none
def leave (W:List Nat)(M:List (Nat × Nat))(s:bA U)(k:X->bA U->A):(os:y1 U)->Bz U (BD os)->A
 |[],_=>aJ.bad
 |(x,sh)::r,o=>match r,o with
  |[],o=>k x (enter W M sh o s)
  |q::r,o=>match o with
   | .go y=>k x (enter W M sh y s)
   | .ret y=>leave W M s k (q::r) y
inductive kR (U:iQ) where
 |o
 |lt
 |md (n:Nat)
 |two (a b:kR U)
 |pc (os:y1 U) (a b:kR U)
 |pu (sl:List Nat) (b:kR U)
 |cM (hd:nB U) (os:y1 U) (a:kR U)
 |pl (a b:kR U)
def kR.l:kR U->kR U
 | .two a _=>a
 | _=>.o
def kR.r:kR U->kR U
 | .two _ b=>b
 | _=>.o
def pT:List bS->List Nat
 |[]=>[]
 |o::r=>match o.dst with
  |some (t,true)=>t::pT r
  | _=>pT r
def auy (t:Nat)(l:List Nat):List Nat:=match mem t l with
 |true=>l
 |false=>t::l
def MK:List Nat->List Nat->List Nat
 |[],l=>l
 |t::r,l=>MK r (auy t l)
def kx:bZ->List Nat
 | .region ops _=>MK (pT ops) []
 | .zQ ops _ _=>pT ops
 | .seq a b=>MK (kx a) (kx b)
 | .cond _ a b=>MK (kx a) (kx b)
 | .block _ a=>kx a
 | .loop a=>kx a
 | _=>[]
inductive xq where
 |lit (b:Bool)
 |nm (i:Nat) (neg:Bool) (b:Bool)
 |tm (b:Bool)
def xq.val:xq->Bool
 | .lit b=>b
 | .nm _ _ b=>b
 | .tm b=>b
def Is (c:Bool)(x y:xq):xq:=match x,y with
 | .nm i n a,.nm j m b=>match Nat.beq i j,n,m with
   |true,true,true=>.nm i n (bif c then a else b)
   |true,false,false=>.nm i n (bif c then a else b)
   | _,_,_=>.tm (bif c then a else b)
 | .lit true,.lit true=>.lit true
 | .lit false,.lit false=>.lit false
 | .lit true,.lit false=>.tm c
 |x,.lit false=>.tm (c&&x.val)
 | .lit true,y=>.tm (c||y.val)
 |x,y=>.tm (bif c then x.val else y.val)
inductive ae7 (U:iQ) where
 |v (v:aO U.ax)
 |b (b:xq)
 |bad
def mx (l:Loc):pQ (bA U)->ae7 U
 | .bad=>.bad
 | .leaf s=>match at_ s l with
   |none=>.bad
   |some v=>match v with
    | .cw b=>.b (.lit b)
    | .bo i n=>match yX s (.bo i n)with
      |some b=>.b (.nm i n b)
      |none=>.bad
    |v=>.v v
 | .br _ c t e=>match mx l t,mx l e with
   | .b x,.b y=>.b (Is c x y)
   | .v (.int k a),.v (.int bF b)=>match decide (k=bF)with
     |true=>.v (.int k (bif c then a else b))
     |false=>.bad
   | .v (.str a),.v (.str b)=>.v (.str (bif c then a else b))
   | .v v,.v w=>match same v w with
     |true=>.v w
     |false=>.bad
   | _,_=>.bad
def vz (n m:Nat)(p:pQ (bA U)):List Nat->bA U->(bA U->A)->A
 |[],s,k=>k s
 |t::r,s,k=>match mx (.s t) p with
  | .v v=>match wf n m v with
    |true=>vz n m p r {s with vs:=(t,v)::s.vs} k
    |false=>aJ.bad
  | .b x=>match x with
    | .lit b=>vz n m p r {s with vs:=(t,.cw b)::s.vs} k
    | .nm i neg b=>match Nat.blt i n with
      |true=>vz n m p r {s with vs:=(t,.bo i neg)::s.vs} k
      |false=>vz n m p r {s with vs:=(t,.bo s.aK.length false)::s.vs,aK:=s.aK++[b]} k
    | .tm b=>vz n m p r {s with vs:=(t,.bo s.aK.length false)::s.vs,aK:=s.aK++[b]} k
  | .bad=>aJ.bad
def Ev (W:List Nat):pQ (bA U)->Bool
 | .bad=>false
 | .leaf s=>match Iq W s.dL,s.cI with
   |true,[]=>true
   | _,_=>false
 | .br _ _ t e=>match Ev W t with
   |true=>Ev W e
   |false=>false
def fresh (s:bA U):bA U:={s with dQ:=[],dL:=[],cI:=[]}
def ML (eC:Option (List Nat))(ops:List bS)(wr:List Bool)(a:A):A:=match eC with
 |none=>a
 |some eC=>match r7 eC ops wr with
  |true=>a
  |false=>aJ.bad
def MM (n:Nat):List (Nat × ck U)->Bool
 |[]=>true
 |e::r=>match Nat.ble n e.1 with
  |true=>MM n r
  |false=>false
def SC (eC:List Nat)(ops:List bS)(wr:List Bool)(n:Nat)(m:List (Nat × ck U))(a:A):A:=match ye eC ops wr,MM n m with
 |true,true=>a
 | _,_=>aJ.bad
def xr (cx:oj U):List bS->kO U->bA U->List (Nat × ck U)->List Bool->(kO U->bA U->List (Nat × ck U)->List Bool->A)->A
 |[],aq,s,p,w,k=>k aq s p w
 |o::r,aq,s,p,w,k=>match o with
  |⟨d,.call true f ay,none⟩=>match ah aq s f,xm aq s ay with
   |some (.fn i []),some [v]=>match bj cx.rG i with
    |some q=>match eD q.1 v,Nat.blt 1 q.2 with
     |some x,true=>aJ.cv (pI q.2 x) fun z=>match put aq {s with aD:=s.aD+1} (.row s.aD) d with
      |(aq,s1)=>xr cx r aq s1 ((s.aD,.row q.1 z)::p) (w++[true]) k
     | _,_=>aJ.bad
    |none=>aJ.bad
   | _,_=>aJ.bad
  |⟨d,.append es bytes a b,none⟩=>match ah aq s a,ah aq s b with
   |some x,some (.lp o lo hi)=>match bj s.mem o,sU x with
    |some (.row t y),some (.k .emp)=>match Nat.beq (U.es t) es with
     |true=>aJ.cv (l6 y lo hi) fun q=>aJ.cv (gz bytes .emp q) fun z=>match put aq {s with aD:=s.aD+1} (.row s.aD) d with
      |(aq,s1)=>xr cx r aq s1 ((s.aD,.row t z)::p) (w++[true]) k
     |false=>aJ.bad
    | _,_=>aJ.bad
   |some (.row o),some y=>match bj p o with
    |some (.row t x)=>match Nat.beq (U.es t) es,eD t y with
     |true,some y=>aJ.cv (gz bytes x y) fun z=>match put aq {s with aD:=s.aD+1} (.row s.aD) d with
      |(aq,s1)=>xr cx r aq s1 (kd o s.aD (.row t z) p) (w++[true]) k
     | _,_=>aJ.bad
    | _=>aJ.bad
   |some x,some (.sl t y)=>match Nat.beq (U.es t) es,sU x with
    |true,some (.k .emp)=>aJ.cv (gz bytes .emp y) fun z=>match put aq {s with aD:=s.aD+1} (.row s.aD) d with
     |(aq,s1)=>xr cx r aq s1 ((s.aD,.row t z)::p) (w++[true]) k
    | _,_=>aJ.bad
   | _,_=>aJ.bad
  |o=>xp cx [o] aq s fun aq s=>xr cx r aq s p (w++[false]) k
def ae8 (cx:oj U)(eC:List Nat)(ops:List bS)(n:Nat)(s:bA U)(k:bA U->A):A:=
 xr cx (ops.take n) [] s [] [] fun aq s p w=>so cx (ops.drop n) aq {s with mem:=p++s.mem} w.reverse fun ao wr=>match Er eC ops w wr with
  |true=>k ao
  |false=>aJ.bad
def ae9 (W:List Nat)(s:bA U)(sl:List Nat)(p:pQ (bA U))(k:bA U->A):A:=match Ev W p with
 |true=>vz s.aK.length s.aD p sl {blank W [] s with dL:=sl++(W++s.dL)} k
 |false=>aJ.bad
noncomputable def MN (f:kR U->{A:Type}->[aJ A]->bA U->(X->bA U->A)->A)(W:List Nat)(hd:nB U)(os:y1 U)(x:kR U)(s:bA U)(k:X->bA U->A):A:=match o1 s.aK.length s.aD (iB hd) s [] hd with
 |none=>aJ.bad
 |some vA=>aJ.cv (cd (fun st=>f x (A:=Option (di (ee U (jf hd)) (Bz U (BD os)))) (fresh (enter W [] hd st s)) fun x ao=>match x with
   | .normal=>match Eu s.aK.length s.aD W [] hd ao with
     |some y=>some (.next y)
     |none=>none
   |x=>match BF s.aK.length s.aD (fV hd++W) (iB hd) x ao os with
    |some y=>some (.out y)
    |none=>none) vA) fun o=>
  leave (fV hd++W) (iB hd) s k os o
noncomputable def kS (cx:oj U):bZ->kR U->{A:Type}->[aJ A]->bA U->(X->bA U->A)->A
 | .skip,_,_,_,s,k=>k .normal s
 | .ret,_,_,_,s,k=>k .ret s
 | .exit i,_,_,_,s,k=>k (.exit i) s
 | .region ops eC,an,_,_,s,k=>match an,eC with
   | .lt,some eC=>xp cx (ops.take (k1 ops)) [] s fun aq s=>so cx (ops.drop (k1 ops)) aq {s with mem:=[]} (List.replicate (k1 ops) false) fun ao wr=>SC eC ops wr s.aD ao.mem (k .normal {ao with mem:=ao.mem++s.mem})
   | .md n,some eC=>ae8 cx eC ops n s fun s=>k .normal s
   | _,eC=>so cx ops [] s [] fun s wr=>ML eC ops wr (k .normal s)
 | .seq a b,an,_,_,s,k=>match an with
   | .pc os x y=>aJ.cv (kS cx a x (A:=Option (Bz U (BD os))) (fresh s) fun x ao=>BF s.aK.length s.aD (kx a) [] x ao os) fun o=>
     leave (kx a) [] s (fun x ao=>match x with
      | .normal=>kS cx b y ao k
      |x=>k x ao) os o
   | .pu sl y=>match a with
     | .region ops eC=>ae9 (pT ops) s sl (so cx ops [] {s with dL:=[],cI:=[]} [] fun s wr=>ML eC ops wr (pQ.leaf s)) fun ao=>kS cx b y ao k
     | _=>aJ.bad
   |an=>kS cx a an.l s fun x s=>match x with
    | .normal=>kS cx b an.r s k
    |x=>k x s
 | .cond c a b,an,_,_,s,k=>match ah [] s c with
   |none=>aJ.bad
   |some v=>split s v (fun s=>kS cx a an.l s k) (fun s=>kS cx b an.r s k)
 | .block id a,an,_,_,s,k=>kS cx a an s fun x s=>k (DP id x) s
 | .loop a,an,_,_,s,k=>match an with
   | .cM hd os x=>MN (fun an {_:Type} [aJ _] s k=>kS cx a an s k) (kx a) hd os x s k
   | .pl x (.cM hd os y)=>kS cx a x s fun e ao=>match e with
     | .normal=>MN (fun an {_:Type} [aJ _] s k=>kS cx a an s k) (kx a) hd os y ao k
     |e=>k e ao
   | _=>aJ.bad
 | _,_,_,_,_,_=>aJ.bad
def BG:(ay:List ma)->o0 U ay->Nat->bA U->List (Il U)->bA U × List (Il U)
 |[],_,_,s,f=>(s,f)
 | .v t::r,x,j,s,f=>BG r x.2 (j+1) {s with vs:=(j,U.hS t x.1 s.aK.length)::s.vs,aK:=s.aK++U.yW t x.1} f
 | .f dU rt::r,x,j,s,f=>BG r x.2 (j+1) {s with vs:=(j,.fv f.length)::s.vs} (f++[⟨dU,rt,x.1⟩])
def MO:(cs:List Nat)->ee U cs->Nat->bA U->Option (bA U)
 |[],_,_,s=>some s
 |t::r,x,j,s=>match sT (U.hS t (pR r x) s.aK.length)with
  |none=>none
  |some cs=>MO r (yZ r x) (j+1) {s with vs:=(j,.ptr s.aD 0)::s.vs,mem:=s.mem++[(s.aD,.cells false cs)],aD:=s.aD+1,aK:=s.aK++U.yW t (pR r x)}
def It (s:bA U):List nd->Option (List (aO U.ax))
 |[]=>some []
 |r::rs=>match(match r with
   | .tmp t=>bj s.vs t
   | .cell a sh=>match bj s.vs a with
     |some (.ptr o f)=>match bj s.mem o with
      |some (.cells _ cs)=>cut cs f sh
      | _=>none
     | _=>none)with
  |none=>none
  |some v=>match It s rs with
   |none=>none
   |some l=>some (v::l)
def SD (s:bA U)(res:List Nat)(vs:List (aO U.ax)):Option (ee U res):=match vs with
 |[v]=>match l7 16 s.mem v with
  |some (v,_)=>rH s.aK res [v]
  |none=>none
 |vs=>match vy (l7 15) s.mem vs with
  |some (vs,_)=>rH s.aK res vs
  |none=>none
def vA:bA U:=⟨[],[],0,[],[],[],[]⟩
noncomputable def MP (T:List (aX U))(ty:List (Nat × Nat))(rG:List (Nat × Nat × Nat))(f:hY)(an:kR U)(caps:List Nat)(args:List ma)(res:List Nat)(c:ee U caps)(a:o0 U args):Option (ee U res):=
 match BG args a 0 vA []with
 |(s,fv)=>match MO caps c args.length s with
  |none=>none
  |some s=>kS ⟨T,fv,ty,rG⟩ f.body an s fun x s=>match x with
   | .exit _=>none
   | _=>match It s f.results with
     |some vs=>SD s res vs
     |none=>none
def iR{ax:Nat->Type}(k:IntKind):aO ax->Option Int
 | .int bF n=>match decide (bF=k)with
   |true=>some n
   |false=>none
 | _=>none
def MQ{ax:Nat->Type}(B:List Bool):aO ax->Option Bool
 | .cw b=>some b
 | .bo i neg=>match nth B i with
   |some c=>match neg with
    |false=>some c
    |true=>some (!c)
   |none=>none
 | _=>none
def Iu{ax:Nat->Type}:aO ax->Option dn
 | .str s=>some s
 | _=>none
def o2{ax:Nat->Type}{R:Type}(f:List (aO ax)->Option R):aO ax->Option R
 | .agg vs=>f vs
 | _=>none
end
end Go.Abs.gB
