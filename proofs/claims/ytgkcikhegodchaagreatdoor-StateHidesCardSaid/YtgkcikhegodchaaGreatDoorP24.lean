/- Texts of this claim, joined and written short by a program. -/
import Derived.Test.YtgkcikhegodchaaGreatDoorP23
import Derived.Test.YtgkcikhegodchaaGreatDoorP21
import Derived.Test.YtgkcikhegodchaaGreatDoorP00
set_option linter.unusedVariables false
set_option linter.unusedSimpArgs false
set_option linter.unusedSectionVars false
namespace Go.Abs.hv
open Go Go.Abs
inductive mo where
 |v (t:Nat)
 |f (ea:List Nat) (rt:Nat)
 deriving DecidableEq
section
variable (J:iT)
def dF:List Nat->Type
 |[]=>Unit
 |a::r=>match r with
  |[]=>J.az a
  | _::_=>J.az a × dF r
def arv:mo->Type
 | .v t=>J.az t
 | .f ea rt=>dF J ea->Option (J.az rt)
def mq:List mo->Type
 |[]=>Unit
 |a::r=>arv J a × mq r
def Bi:List (List Nat)->Type
 |[]=>Unit
 |a::r=>match r with
  |[]=>dF J a
  | _::_=>bO (dF J a) (Bi r)
structure ba where
 id:Nat
 caps:List Nat
 args:List mo
 res:List Nat
 fn:dF J caps->mq J args->Option (dF J res)
structure Hs where
 ea:List Nat
 rt:Nat
 f:dF J ea->Option (J.az rt)
structure oj where
 T:List (ba J)
 fv:List (Hs J)
 ty:List (Nat × Nat)
 xd:List (Nat × Nat × Nat)
end
section
variable{J:iT}{A:Type}[aP A]
def yO{a:Nat}:(r:List Nat)->J.az a->dF J r->dF J (a::r)
 |[],x,_=>x
 | _::_,x,y=>(x,y)
def qh{a:Nat}:(r:List Nat)->dF J (a::r)->J.az a
 |[],x=>x
 | _::_,x=>x.1
def yP{a:Nat}:(r:List Nat)->dF J (a::r)->dF J r
 |[],_=>()
 | _::_,x=>x.2
def LX:(ea:List Nat)->dF J ea->mq J (ea.map mo.v)
 |[],_=>()
 | _::r,x=>(qh r x,LX r (yP r x))
def rT (B:List Bool):(ts:List Nat)->List (aR J.az)->Option (dF J ts)
 |[],[]=>some ()
 |t::ts,v::vs=>match J.iC t v B with
  |none=>none
  |some x=>match rT B ts vs with
   |none=>none
   |some l=>some (yO ts x l)
 | _,_=>none
def RM (m:List (Nat × cp J)):aR J.az->Option (aR J.az)
 | .ptr o 0=>match bt m o with
   |some (.cells _ [c])=>match c with
    | .agg _=>none
    |c=>match sZ c with
     |some _=>some c
     |none=>none
   |some (.cells _ cs)=>some (.agg cs)
   | _=>none
 | _=>none
def Ht:List (aR J.az)->List Nat->Bool
 |[],_=>true
 | .ptr o _::r,l=>match mem o l with
   |true=>false
   |false=>Ht r (o::l)
 | _::_,_=>false
def Bj:List mo->Bool
 |[]=>true
 | .v _::r=>Bj r
 | .f .. ::_=>false
def Hu (m:List (Nat × cp J)):List (aR J.az)->Option (List (aR J.az))
 |[]=>some []
 |v::r=>match RM m v with
  |none=>none
  |some c=>match Hu m r with
   |none=>none
   |some l=>some (c::l)
def xe:List (ba J)->Nat->Option (ba J)
 |[],_=>none
 |e::r,i=>match Nat.beq e.id i with
  |true=>some e
  |false=>xe r i
def RN (cx:oj J)(s:bE J)(ea:List Nat)(rt:Nat):aR J.az->Option (dF J ea->Option (J.az rt))
 | .fv j=>match nth cx.fv j with
   |none=>none
   |some f=>if h:f.ea=ea/\f.rt=rt then some fun z=>h.2 ▸ f.f (h.1 ▸ z)else none
 | .fn i cs=>match xe cx.T i with
   |none=>none
   |some e=>match Hu s.mem cs,Ht cs []with
    |some vs,true=>match rT s.aQ e.caps vs with
     |none=>none
     |some c=>if h:e.args=ea.map mo.v/\e.res=[rt]then some fun z=>(congrArg (fun l=>Option (dF J l)) h.2).mp (e.fn c (h.1 ▸ LX ea z))else none
    | _,_=>none
 | _=>none
def yQ (cx:oj J)(s:bE J):(aX:List mo)->List (aR J.az)->Option (mq J aX)
 |[],[]=>some ()
 | .v t::aX,v::vs=>match J.iC t v s.aQ with
   |none=>none
   |some x=>match yQ cx s aX vs with
    |none=>none
    |some l=>some (x,l)
 | .f ea rt::aX,v::vs=>match RN cx s ea rt v with
   |none=>none
   |some x=>match yQ cx s aX vs with
    |none=>none
    |some l=>some (x,l)
 | _,_=>none
def elems:(ts:List Nat)->dF J ts->bE J->(List (aR J.az)->bE J->A)->A
 |[],_,s,k=>k [] s
 |t::ts,x,s,k=>elem t (qh ts x) s fun v s=>elems ts (yP ts x) s fun vs s=>k (v::vs) s
def LY (ts:List Nat)(x:dF J ts)(s:bE J)(k:aR J.az->bE J->A):A:=elems ts x s fun vs s=>match vs with
 |[v]=>k v s
 |vs=>k (.aF vs) s
def LZ (cx:oj J)(s:bE J)(f:aR J.az)(aX:List (aR J.az))(k:aR J.az->bE J->A):A:=match f with
 | .fv j=>match nth cx.fv j with
   |none=>aP.bad
   |some f=>match rT s.aQ f.ea aX with
    |none=>aP.bad
    |some a=>aP.cJ (f.f a) fun r=>elem f.rt r s k
 | .fn i cs=>match xe cx.T i with
   |none=>aP.bad
   |some e=>match Hu s.mem cs,Ht cs [],(match cs with|[]=>true| _=>Bj e.args)with
    |some vs,true,true=>match rT s.aQ e.caps vs with
     |none=>aP.bad
     |some c=>match yQ cx s e.args aX with
      |none=>aP.bad
      |some a=>aP.cJ (e.fn c a) fun r=>LY e.res r s k
    | _,_,_=>aP.bad
 | _=>aP.bad
def jc (o:Nat)(b:cp J):List (Nat × cp J)->List (Nat × cp J)
 |[]=>[]
 |(k,c)::r=>match Nat.beq k o with
  |true=>(k,b)::r
  |false=>(k,c)::jc o b r
def marks (o f:Nat):Nat->List (Nat × Nat)->List (Nat × Nat)
 |0,l=>l
 |n+1,l=>(o,f+n)::marks o f n l
def k8 (s:bE J)(b:cp J):bE J:={s with mem:=(s.aE,b)::s.mem,aE:=s.aE+1}
def qi (o:Nat):List (Nat × cp J)->List (Nat × cp J)
 |[]=>[]
 |(k,c)::r=>match Nat.beq k o with
  |true=>r
  |false=>(k,c)::qi o r
def kl (o n:Nat)(b:cp J):List (Nat × cp J)->List (Nat × cp J)
 |[]=>[]
 |(k,c)::r=>match Nat.beq k o with
  |true=>(n,b)::r
  |false=>(k,c)::kl o n b r
def vj (f:List (Nat × cp J)->aR J.az->Option (aR J.az × List (Nat × cp J))):List (Nat × cp J)->List (aR J.az)->Option (List (aR J.az) × List (Nat × cp J))
 |m,[]=>some ([],m)
 |m,v::r=>match f m v with
  |none=>none
  |some (v',m)=>match vj f m r with
   |none=>none
   |some (l,m)=>some (v'::l,m)
def mf:Nat->List (Nat × cp J)->aR J.az->Option (aR J.az × List (Nat × cp J))
 |0,_,_=>none
 |n+1,m,v=>match v with
  | .row o=>match bt m o with
    |some (.row t x)=>some (.sl t x,jc o (.fz t x) m)
    |some (.fz t x)=>some (.sl t x,m)
    | _=>none
  | .agg vs=>match vj (mf n) m vs with
    |some (l,m)=>some (.agg l,m)
    |none=>none
  | .aF vs=>match vj (mf n) m vs with
    |some (l,m)=>some (.aF l,m)
    |none=>none
  | .int k i=>some (.int k i,m)
  | .b2 b=>some (.b2 b,m)
  | .bo i b=>some (.bo i b,m)
  | .str b=>some (.str b,m)
  | .sl t x=>some (.sl t x,m)
  | .k v=>match bx v with
    |true=>some (.k v,m)
    |false=>none
  | _=>none
mutual
def arw:aR J.az->Bool
 | .row _=>true
 | .agg vs=>L0 vs
 | .aF vs=>L0 vs
 | _=>false
def L0:List (aR J.az)->Bool
 |[]=>false
 |v::r=>match arw v with
  |true=>true
  |false=>L0 r
end
def Hv:List Nat->Bool
 |[]=>true
 |t::r=>match J.bc t with
  |true=>Hv r
  |false=>false
def RO (cx:oj J)(s:bE J)(f:aR J.az)(aX:List (aR J.az))(k:aR J.az->bE J->A):A:=match f with
 | .fn i []=>match xe cx.T i,vj (mf 16) s.mem aX with
   |some e,some (tn,_)=>match rT s.aQ e.caps [],yQ cx s e.args tn,Bj e.args with
    |some c,some a,true=>aP.cJ (e.fn c a) fun r=>LY e.res r s fun v s=>match Hv (J:=J) e.res with
     |true=>k v s
     |false=>match v with
      | .sl _ x=>aP.br s.aQ.length x.isNil (k (.k .cu) s) aP.bad
      | _=>aP.bad
    | _,_,_=>aP.bad
   | _,_=>aP.bad
 | _=>aP.bad
def gone (m':List (Nat × cp J)):List (Nat × cp J)->List (Nat × Nat)
 |[]=>[]
 |(o,aY)::r=>match aY with
  | .row _ _=>match bt m' o with
    |some (.fz _ _)=>(o,0)::gone m' r
    | _=>gone m' r
  | _=>gone m' r
def RP (cx:oj J)(s:bE J)(f:aR J.az)(aX:List (aR J.az))(k:aR J.az->bE J->A):A:=match f with
 | .fn i []=>match xe cx.T i,vj (mf 16) s.mem aX with
   |some e,some (tn,m')=>match rT s.aQ e.caps [],yQ cx s e.args tn,Bj e.args with
    |some c,some a,true=>aP.cJ (e.fn c a) fun r=>LY e.res r s fun v ar=>k v {ar with mem:=m',cL:=gone m' s.mem++ar.cL}
    | _,_,_=>aP.bad
   | _,_=>aP.bad
 | _=>aP.bad
def s3 (s:bE J)(es bytes t:Nat)(x:ae (J.az t))(o:Option Nat)(y:aR J.az)(k:aR J.az->bE J->Bool->A):A:=match Nat.beq (J.es t) es,eM t y with
 |true,some y=>aP.cJ (hh bytes x y) fun z=>match o with
  |some o=>k (.row s.aE) {s with mem:=kl o s.aE (.row t z) s.mem,aE:=s.aE+1,cL:=(o,0)::s.cL} true
  |none=>k (.row s.aE) (k8 s (.row t z)) true
 | _,_=>aP.bad
def L1 (s:bE J)(es bytes t:Nat)(x:aR J.az)(q:ae (J.az t))(k:aR J.az->bE J->Bool->A):A:=match x with
 | .row o=>match bt s.mem o with
   |some (.row ed x)=>s3 s es bytes ed x (some o) (.sl t q) k
   | _=>aP.bad
 |x=>match s0 x with
  |some (.k .cu)=>s3 s es bytes t .nil none (.sl t q) k
  |some (.k .emp)=>s3 s es bytes t .emp none (.sl t q) k
  | _=>aP.bad
def RQ:ai->ai->Bool
 | .tmp a,.tmp b=>Nat.beq a b
 | .var a,.var b=>Nat.beq a b
 | .const (.int _ a),.const (.int _ b)=>decide (a=b)
 | _,_=>false
def RR:aR J.az->Bool
 | .int .. | .b2 _| .bo .. | .str _| .sl .. | .ptr .. | .fn .. =>true
 | .k v=>plainCell v
 | _=>false
def L2:List (aR J.az)->Bool
 |[]=>true
 |v::r=>match RR v with
  |true=>L2 r
  |false=>false
def Gc (w:aR J.az)(f:Nat)(vs:List (aR J.az)):Option (aR J.az):=match w with
 | .agg cs=>match Nat.ble (f+vs.length) cs.length with
   |true=>some (.agg (vh cs f vs))
   |false=>none
 | .lD| .row _| .fv _| .k _| .hN .. | .lC .. =>none
 | _=>match f,vs with
   |0,[x]=>some x
   | _,_=>none
def xf (m:List (Nat × cp J))(o:Nat):Bool:=match bt m o with
 |some (.row ..)=>true
 | _=>false
def RS (m:List (Nat × cp J)):aR J.az->Option (List (aR J.az))
 | .row o=>match xf m o with
   |true=>some [.row o]
   |false=>none
 |v=>sZ v
def L3 (m:List (Nat × cp J)):List (aR J.az)->Bool
 |[]=>true
 |v::r=>match(match v with| .row o=>xf m o|v=>LR v)with
  |true=>L3 m r
  |false=>false
def RT (aq:k7 J)(s:bE J)(len:Nat)(parts:List (Nat × ai))(jG:Bool):Option (Nat × ai):=match len,parts,jG with
 |1,[(0,x)],true=>match ah aq s x with
  |some (.row o)=>some (o,x)
  | _=>none
 | _,_,_=>none
def adf (s:bE J)(p:Nat × Nat)(aX:List (aR J.az))(k:aR J.az->bE J->Bool->A):A:=match p.2 with
 |0=>match aX with
  |[.row o]=>match bt s.mem o with
   |some (.row t x)=>match Nat.beq t p.1 with
    |true=>aP.cJ (acW x) fun z=>k (.k (.aF [])) {s with mem:=jc o (.row t z) s.mem,cL:=(o,0)::s.cL} true
    |false=>aP.bad
   | _=>aP.bad
  |[.k .cu]=>k (.k (.aF [])) s true
  | _=>aP.bad
 |1=>match aX with
  |[.row o,.int adg a,.int rS c]=>match bt s.mem o with
   |some (.row t x)=>match Nat.beq t p.1,decide (adg=.i64),decide (rS=.i64)with
    |true,true,true=>aP.cJ (acX x a c) fun z=>k (.sl t z) {s with mem:=qi o s.mem,cL:=(o,0)::s.cL} true
    | _,_,_=>aP.bad
   | _=>aP.bad
  | _=>aP.bad
 | _=>match aX with
   |[v]=>match eM p.1 v with
    |some x=>aP.cJ (KW p.2 x) fun z=>k (.row s.aE) (k8 s (.row p.1 z)) true
    |none=>aP.bad
   | _=>aP.bad
def oper (cx:oj J)(aq:k7 J)(s:bE J)(d:Option (Nat × Bool))(k:aR J.az->bE J->Bool->A):cX->A
 | .alloc z=>k (.ptr s.aE 0) (k8 s (.cells true (DT z))) true
 | .box x=>match ah aq s x with
   |none=>aP.bad
   |some v=>match sZ v with
    |none=>aP.bad
    |some cs=>match Hp cs with
     |true=>k (.ptr s.aE 0) (k8 s (.cells true cs)) true
     |false=>aP.bad
 | .store n x y=>match ah aq s x,ah aq s y with
   |some (.ptr o f),some v=>match bt s.mem o,RS s.mem v with
    |some (.cells true cs),some vs=>match Nat.beq vs.length n,Nat.ble (f+n) cs.length,L3 s.mem vs with
     |true,true,true=>k (.k .undef) {s with mem:=jc o (.cells true (vh cs f vs)) s.mem,cL:=marks o f vs.length s.cL} true
     | _,_,_=>aP.bad
    | _,_=>aP.bad
   |some (.hN o i f),some v=>match bt s.mem o,sZ v with
    |some (.row t a),some vs=>match Nat.beq vs.length n,L2 vs with
     |true,true=>aP.cJ (aO a.l i) fun e=>elem t e s fun w s=>match Gc w f vs with
      |none=>aP.bad
      |some w=>match J.iC t w s.aQ with
       |none=>aP.bad
       |some e'=>k (.k .undef) {s with mem:=jc o (.row t (p8 a i e')) s.mem,cL:=(o,0)::s.cL} true
     | _,_=>aP.bad
    | _,_=>aP.bad
   | _,_=>aP.bad
 | .append es bytes a b=>match ah aq s a,ah aq s b with
   |some x,some (.lC o lo hi)=>match bt s.mem o with
    |some (.row t y)=>aP.cJ (k3 y lo hi) fun q=>L1 s es bytes t x q k
    | _=>aP.bad
   |some x,some (.row o)=>match bt s.mem o with
    |some (.row t y)=>L1 s es bytes t x y k
    | _=>aP.bad
   |some (.row o),some y=>match bt s.mem o with
    |some (.row t x)=>s3 s es bytes t x (some o) y k
    | _=>aP.bad
   |some x,some (.sl t y)=>match s0 x with
    |some (.k .cu)=>s3 s es bytes t .nil none (.sl t y) k
    |some (.k .emp)=>s3 s es bytes t .emp none (.sl t y) k
    | _=>aP.bad
   | _,_=>aP.bad
 | .mkSlice es z bytes l c=>match d with
   |some (q,_)=>match bt cx.ty q,RQ l c,ah aq s l with
    |some t,true,some (.int _ n)=>match Nat.beq (J.es t) es,J.iC t (ade z) []with
     |true,some e=>aP.cJ (yu bytes e n) fun x=>k (.row s.aE) (k8 s (.row t x)) true
     | _,_=>aP.bad
    | _,_,_=>aP.bad
   |none=>aP.bad
 | .mkMap=>match d with
   |some (q,_)=>match bt cx.ty q with
    |some c=>match J.mp c with
     |some p=>k (.row s.aE) (k8 s (.mp p.1 p.2 [])) true
     |none=>aP.bad
    |none=>aP.bad
   |none=>aP.bad
 | .qu kind x i y=>match ah aq s x,ah aq s i,ah aq s y with
   |some (.row o),some v,some w=>match bt s.mem o with
    |some (.mp eO kk m)=>match J.iC eO v s.aQ,J.iC kk w s.aQ,kindOf (J:=J) eO kind with
     |some x,some y,true=>k (.k .undef) {s with mem:=jc o (.mp eO kk (aru eO kk m x y)) s.mem,cL:=(o,0)::s.cL} true
     | _,_,_=>aP.bad
    | _=>aP.bad
   | _,_,_=>aP.bad
 | .call false f aX=>match ah aq s f,xc aq s aX with
   |some f,some aX=>match L0 aX with
    |true=>match(match d with|some (q,_)=>bt cx.ty q|none=>none)with
     |some _=>RP cx s f aX fun v s=>k v s true
     |none=>RO cx s f aX fun v s=>k v s false
    |false=>LZ cx s f aX fun v s=>k v s false
   | _,_=>aP.bad
 | .call true f aX=>match ah aq s f,xc aq s aX with
   |some (.fn i []),some aX=>match bt cx.xd i with
    |some p=>adf s p aX k
    |none=>aP.bad
   | _,_=>aP.bad
 | .lit es z len parts jG=>match RT aq s len parts jG with
   |some (o,_)=>match d with
    |some (q,_)=>match bt cx.ty q,bt s.mem o with
     |some t,some (.row ed x)=>match J.iC t (.sl ed x) s.aQ,Nat.beq (J.es t) es with
      |some e,true=>k (.sl t (.mk [e])) {s with mem:=qi o s.mem,cL:=(o,0)::s.cL} true
      | _,_=>aP.bad
     | _,_=>aP.bad
    |none=>aP.bad
   |none=>Hr aq s (match d with|some (t,_)=>bt cx.ty t|none=>none) (fun v s=>k v s false) (.lit es z len parts jG)
 |op=>Hr aq s (match d with|some (t,_)=>bt cx.ty t|none=>none) (fun v s=>k v s false) op
def put (aq:k7 J)(s:bE J)(v:aR J.az):Option (Nat × Bool)->(k7 J × bE J)
 |none=>(aq,s)
 |some (t,false)=>((t,v)::aq,s)
 |some (t,true)=>(aq,{s with vs:=(t,v)::s.vs,dR:=t::s.dR})
def so (cx:oj J):List bU->k7 J->bE J->List Bool->(bE J->List Bool->A)->A
 |[],aq,s,wr,k=>k s wr.reverse
 |o::r,aq,s,wr,k=>
  let go:=fun s=>oper cx aq s o.dst (fun v s m=>match put aq s v o.dst with|(aq,s)=>so cx r aq s (m::wr) k) o.op;let skip:=fun s=>match put aq s (.aF []) o.dst with|(aq,s)=>so cx r aq s (false::wr) k
  match o.guard with
  |none=>go s
  |some (x,w)=>match ah aq s x with
   |none=>aP.bad
   |some v=>match v with
    | .aF []=>skip s
    |v=>match w with
     |true=>split s v go skip
     |false=>split s v skip go
def RU (cx:oj J)(aq:k7 J)(s:bE J)(d:Option (Nat × Bool))(k:aR J.az->bE J->A):cX->A
 | .call false f aX=>match ah aq s f,xc aq s aX with
   |some f,some aX=>LZ cx s f aX k
   | _,_=>aP.bad
 |op=>Hr aq s (match d with|some (t,_)=>bt cx.ty t|none=>none) k op
def xg (cx:oj J):List bU->k7 J->bE J->(k7 J->bE J->A)->A
 |[],aq,s,k=>k aq s
 |o::r,aq,s,k=>
  let fin:=fun v s=>match put aq s v o.dst with|(aq,s)=>xg cx r aq s k
  let go:=fun s=>RU cx aq s o.dst fin o.op
  match o.guard with
  |none=>go s
  |some (x,w)=>match ah aq s x with
   |none=>aP.bad
   |some v=>match v with
    | .aF []=>fin (.aF []) s
    |v=>match w with
     |true=>split s v go (fin (.aF []))
     |false=>split s v (fin (.aF [])) go
inductive Loc where
 |s (t:Nat)
 |m (o j:Nat)
inductive arx (J:iT) where
 |p (t:Nat)
 |c (v:aR J.az)
 |r (t:Nat)
 |d
abbrev nI (J:iT):=List (Loc × arx J)
def jd:nI J->List Nat
 |[]=>[]
 |(_,.p t)::r=>t::jd r
 |(_,.c _)::r=>jd r
 |(_,.r t)::r=>t::jd r
 |(_,.d)::r=>jd r
def at_ (s:bE J):Loc->Option (aR J.az)
 | .s t=>bt s.vs t
 | .m o j=>match bt s.mem o with
   |some (.cells _ cs)=>nth cs j
   | _=>none
mutual
def same:aR J.az->aR J.az->Bool
 | .b2 a,.b2 b=>match a,b with
   |true,true=>true
   |false,false=>true
   | _,_=>false
 | .bo i n,.bo j m=>match Nat.beq i j,n,m with
   |true,true,true=>true
   |true,false,false=>true
   | _,_,_=>false
 | .int k a,.int bJ b=>match decide (k=bJ)with
   |true=>decide (a=b)
   |false=>false
 | .k v,.k w=>ep v w
 | .ptr o f,.ptr o' mB=>match Nat.beq o o' with
   |true=>Nat.beq f mB
   |false=>false
 | .fv j,.fv wv=>Nat.beq j wv
 | .fn i cs,.fn zC cs'=>match Nat.beq i zC with
   |true=>Bk cs cs'
   |false=>false
 | .agg cs,.agg cs'=>Bk cs cs'
 | .str a,.str b=>decide (a=b)
 | _,_=>false
def Bk:List (aR J.az)->List (aR J.az)->Bool
 |[],[]=>true
 |a::r,b::s=>match same a b with
  |true=>Bk r s
  |false=>false
 | _,_=>false
end
mutual
def wf (n m:Nat):aR J.az->Bool
 | .bo i _=>Nat.blt i n
 | .ptr o _=>Nat.blt o m
 | .row o=>Nat.blt o m
 | .hN o _ _=>Nat.blt o m
 | .lC o _ _=>Nat.blt o m
 | .agg vs=>Bl n m vs
 | .aF vs=>Bl n m vs
 | .dz vs _=>Bl n m vs
 | .fn _ cs=>Bl n m cs
 | _=>true
def Bl (n m:Nat):List (aR J.az)->Bool
 |[]=>true
 |v::r=>match wf n m v with
  |true=>Bl n m r
  |false=>false
end
def rU (o j:Nat):List (Nat × Nat)->Bool
 |[]=>false
 |(a,b)::r=>match Nat.beq a o,Nat.beq b j with
  |true,true=>true
  | _,_=>rU o j r
def RV (c eO kk:Nat)(x:List (J.az eO × J.az kk)):Option (J.az c):=match h:J.mp c with
 |none=>none
 |some p=>if e:p=(eO,kk)then some ((J.ac9 c (eO,kk) (h.trans (congrArg some e))).symm ▸ x)else none
def L4 (c:Nat)(v:aR J.az):Option (J.az c):=match J.mp c with
 |some _=>none
 |none=>J.iC c v []
def rowAt (c:Nat)(x:J.az c):Option (cp J):=match h:J.mp c with
 |some p=>some (.mp p.1 p.2 (J.ac9 c p h ▸ x))
 |none=>match J.h4 c x 0 with
  | .sl t y=>some (.row t y)
  | _=>none
def pg (n m:Nat)(M:List (Nat × Nat))(s:bE J)(u:List Nat):(sh:nI J)->Option (dF J (jd sh))
 |[]=>some ()
 |(l,.p t)::r=>match at_ s l with
  |none=>none
  |some v=>match J.iC t v s.aQ with
   |none=>none
   |some x=>match pg n m M s u r with
    |none=>none
    |some y=>some (yO (jd r) x y)
 |(l,.c v)::r=>match at_ s l with
  |none=>none
  |some w=>match same w v,wf n m v with
   |true,true=>pg n m M s u r
   | _,_=>none
 |(_,.d)::r=>pg n m M s u r
 |(l,.r c)::r=>match at_ s l with
  |none=>none
  |some v=>match v with
   | .row o=>match bt s.mem o,mem o u,(match Nat.ble m o with|true=>true|false=>rU o 0 M)with
     |some (.row t x),false,true=>match L4 c (.sl t x)with
      |none=>none
      |some x=>match pg n m M s (o::u) r with
       |none=>none
       |some y=>some (yO (jd r) x y)
     |some (.mp eO kk x),false,true=>match RV c eO kk x with
      |none=>none
      |some x=>match pg n m M s (o::u) r with
       |none=>none
       |some y=>some (yO (jd r) x y)
     | _,_,_=>none
   |v=>match s0 v with
    |none=>none
    |some v=>match L4 c v with
     |none=>none
     |some x=>match pg n m M s u r with
      |none=>none
      |some y=>some (yO (jd r) x y)
def k9 (s:bE J)(l:Loc)(v:aR J.az):bE J:=match l with
 | .s t=>{s with vs:=(t,v)::s.vs}
 | .m o j=>match bt s.mem o with
   |some (.cells w cs)=>{s with mem:=jc o (.cells w (cs.set j v)) s.mem}
   | _=>s
def rV:(sh:nI J)->dF J (jd sh)->bE J->bE J
 |[],_,s=>s
 |(l,.p t)::r,x,s=>rV r (yP (jd r) x) (k9 {s with aQ:=s.aQ++J.yM t (qh (jd r) x)} l (J.h4 t (qh (jd r) x) s.aQ.length))
 |(l,.c v)::r,x,s=>rV r x (k9 s l v)
 |(_,.d)::r,x,s=>rV r x s
 |(l,.r c)::r,x,s=>rV r (yP (jd r) x) (match rowAt c (qh (jd r) x)with
  |some aY=>k9 (k8 s aY) l (.row s.aE)
  |none=>s)
def iD:nI J->List (Nat × Nat)
 |[]=>[]
 |(.m o j,_)::r=>(o,j)::iD r
 | _::r=>iD r
def s4 (o:Nat)(M:List (Nat × Nat)):Nat->List (aR J.az)->List (aR J.az)
 | _,[]=>[]
 |j,c::r=>(match rU o j M with
  |true=>.lD
  |false=>c)::s4 o M (j+1) r
def rW (M:List (Nat × Nat)):List (Nat × cp J)->List (Nat × cp J)
 |[]=>[]
 |(o,b)::r=>match b with
  | .cells w cs=>(o,.cells w (s4 o M 0 cs))::rW M r
  |b=>match rU o 0 M with
   |true=>rW M r
   |false=>(o,b)::rW M r
def blank (W:List Nat)(M:List (Nat × Nat))(s:bE J):bE J:={s with vs:=(W.map fun t=>(t,.lD))++s.vs,mem:=rW M s.mem}
def gd:nI J->List Nat
 |[]=>[]
 |(.s t,_)::r=>t::gd r
 | _::r=>gd r
def enter (W:List Nat)(M:List (Nat × Nat))(sh:nI J)(x:dF J (jd sh))(s:bE J):bE J:=
 {rV sh x (blank (gd sh++W) (M++iD sh) s)with du:=[],dR:=gd sh++(W++s.dR),cL:=M++(iD sh++s.cL)}
def Hw (W:List Nat):List Nat->Bool
 |[]=>true
 |t::r=>match mem t W with
  |true=>Hw W r
  |false=>false
def Hx (n:Nat)(M:List (Nat × Nat)):List (Nat × Nat)->Bool
 |[]=>true
 |(o,c)::r=>match Nat.ble n o with
  |true=>Hx n M r
  |false=>match rU o c M with
   |true=>Hx n M r
   |false=>false
def DU (n m:Nat)(W:List Nat)(M:List (Nat × Nat))(sh:nI J)(s:bE J):Option (dF J (jd sh)):=match Hw W s.dR with
 |false=>none
 |true=>match Hx m (M++iD sh) s.cL with
  |true=>pg n m (M++iD sh) s [] sh
  |false=>none
abbrev yR (J:iT):=List (X × nI J)
def Bm:yR J->List (List Nat)
 |[]=>[]
 |(_,sh)::r=>jd sh::Bm r
def L5:X->X->Bool
 | .normal,.normal=>true
 | .ret,.ret=>true
 | .exit i,.exit j=>Nat.beq i j
 | _,_=>false
def Bn (n m:Nat)(W:List Nat)(M:List (Nat × Nat))(x:X)(s:bE J):(os:yR J)->Option (Bi J (Bm os))
 |[]=>none
 |(e1,sh)::r=>match r with
  |[]=>match L5 x e1 with
   |true=>DU n m W M sh s
   |false=>none
  |q::r=>match L5 x e1 with
   |true=>match DU n m W M sh s with
    |some y=>some (bO.go y)
    |none=>none
   |false=>match Bn n m W M x s (q::r)with
    |some y=>some (bO.ret y)
    |none=>none
def leave (W:List Nat)(M:List (Nat × Nat))(s:bE J)(k:X->bE J->A):(os:yR J)->Bi J (Bm os)->A
 |[],_=>aP.bad
 |(x,sh)::r,o=>match r,o with
  |[],o=>k x (enter W M sh o s)
  |q::r,o=>match o with
   | .go y=>k x (enter W M sh y s)
   | .ret y=>leave W M s k (q::r) y
inductive kI (J:iT) where
 |o
 |lt
 |md (n:Nat)
 |two (a b:kI J)
 |pc (os:yR J) (a b:kI J)
 |pu (sl:List Nat) (b:kI J)
 |cy (hd:nI J) (os:yR J) (a:kI J)
 |pl (a b:kI J)
def kI.l:kI J->kI J
 | .two a _=>a
 | _=>.o
def kI.r:kI J->kI J
 | .two _ b=>b
 | _=>.o
def qj:List bU->List Nat
 |[]=>[]
 |o::r=>match o.dst with
  |some (t,true)=>t::qj r
  | _=>qj r
def ary (t:Nat)(l:List Nat):List Nat:=match mem t l with
 |true=>l
 |false=>t::l
def L6:List Nat->List Nat->List Nat
 |[],l=>l
 |t::r,l=>L6 r (ary t l)
def kJ:cF->List Nat
 | .region ops _=>L6 (qj ops) []
 | .zB ops _ _=>qj ops
 | .seq a b=>L6 (kJ a) (kJ b)
 | .cond _ a b=>L6 (kJ a) (kJ b)
 | .block _ a=>kJ a
 | .loop a=>kJ a
 | _=>[]
inductive xh where
 |lit (b:Bool)
 |nm (i:Nat) (neg:Bool) (b:Bool)
 |tm (b:Bool)
def xh.val:xh->Bool
 | .lit b=>b
 | .nm _ _ b=>b
 | .tm b=>b
def Hy (c:Bool)(x y:xh):xh:=match x,y with
 | .nm i n a,.nm j m b=>match Nat.beq i j,n,m with
   |true,true,true=>.nm i n (bif c then a else b)
   |true,false,false=>.nm i n (bif c then a else b)
   | _,_,_=>.tm (bif c then a else b)
 | .lit true,.lit true=>.lit true
 | .lit false,.lit false=>.lit false
 | .lit true,.lit false=>.tm c
 |x,.lit false=>.tm (c&&x.val)
 | .lit true,y=>.tm (c||y.val)
 |x,y=>.tm (bif c then x.val else y.val)
inductive adh (J:iT) where
 |v (v:aR J.az)
 |b (b:xh)
 |bad
def mx (l:Loc):qg (bE J)->adh J
 | .bad=>.bad
 | .leaf s=>match at_ s l with
   |none=>.bad
   |some v=>match v with
    | .b2 b=>.b (.lit b)
    | .bo i n=>match yN s (.bo i n)with
      |some b=>.b (.nm i n b)
      |none=>.bad
    |v=>.v v
 | .br _ c t e=>match mx l t,mx l e with
   | .b x,.b y=>.b (Hy c x y)
   | .v (.int k a),.v (.int bJ b)=>match decide (k=bJ)with
     |true=>.v (.int k (bif c then a else b))
     |false=>.bad
   | .v (.str a),.v (.str b)=>.v (.str (bif c then a else b))
   | .v v,.v w=>match same v w with
     |true=>.v w
     |false=>.bad
   | _,_=>.bad
def vk (n m:Nat)(p:qg (bE J)):List Nat->bE J->(bE J->A)->A
 |[],s,k=>k s
 |t::r,s,k=>match mx (.s t) p with
  | .v v=>match wf n m v with
    |true=>vk n m p r {s with vs:=(t,v)::s.vs} k
    |false=>aP.bad
  | .b x=>match x with
    | .lit b=>vk n m p r {s with vs:=(t,.b2 b)::s.vs} k
    | .nm i neg b=>match Nat.blt i n with
      |true=>vk n m p r {s with vs:=(t,.bo i neg)::s.vs} k
      |false=>vk n m p r {s with vs:=(t,.bo s.aQ.length false)::s.vs,aQ:=s.aQ++[b]} k
    | .tm b=>vk n m p r {s with vs:=(t,.bo s.aQ.length false)::s.vs,aQ:=s.aQ++[b]} k
  | .bad=>aP.bad
def DV (W:List Nat):qg (bE J)->Bool
 | .bad=>false
 | .leaf s=>match Hw W s.dR,s.cL with
   |true,[]=>true
   | _,_=>false
 | .br _ _ t e=>match DV W t with
   |true=>DV W e
   |false=>false
def fresh (s:bE J):bE J:={s with du:=[],dR:=[],cL:=[]}
def L7 (eK:Option (List Nat))(ops:List bU)(wr:List Bool)(a:A):A:=match eK with
 |none=>a
 |some eK=>match sr eK ops wr with
  |true=>a
  |false=>aP.bad
def L8 (n:Nat):List (Nat × cp J)->Bool
 |[]=>true
 |e::r=>match Nat.ble n e.1 with
  |true=>L8 n r
  |false=>false
def RW (eK:List Nat)(ops:List bU)(wr:List Bool)(n:Nat)(m:List (Nat × cp J))(a:A):A:=match xX eK ops wr,L8 n m with
 |true,true=>a
 | _,_=>aP.bad
def xi (cx:oj J):List bU->k7 J->bE J->List (Nat × cp J)->List Bool->(k7 J->bE J->List (Nat × cp J)->List Bool->A)->A
 |[],aq,s,p,w,k=>k aq s p w
 |o::r,aq,s,p,w,k=>match o with
  |⟨d,.call true f aX,none⟩=>match ah aq s f,xc aq s aX with
   |some (.fn i []),some [v]=>match bt cx.xd i with
    |some q=>match eM q.1 v,Nat.blt 1 q.2 with
     |some x,true=>aP.cJ (KW q.2 x) fun z=>match put aq {s with aE:=s.aE+1} (.row s.aE) d with
      |(aq,s1)=>xi cx r aq s1 ((s.aE,.row q.1 z)::p) (w++[true]) k
     | _,_=>aP.bad
    |none=>aP.bad
   | _,_=>aP.bad
  |⟨d,.append es bytes a b,none⟩=>match ah aq s a,ah aq s b with
   |some x,some (.lC o lo hi)=>match bt s.mem o,s0 x with
    |some (.row t y),some (.k .emp)=>match Nat.beq (J.es t) es with
     |true=>aP.cJ (k3 y lo hi) fun q=>aP.cJ (hh bytes .emp q) fun z=>match put aq {s with aE:=s.aE+1} (.row s.aE) d with
      |(aq,s1)=>xi cx r aq s1 ((s.aE,.row t z)::p) (w++[true]) k
     |false=>aP.bad
    | _,_=>aP.bad
   |some (.row o),some y=>match bt p o with
    |some (.row t x)=>match Nat.beq (J.es t) es,eM t y with
     |true,some y=>aP.cJ (hh bytes x y) fun z=>match put aq {s with aE:=s.aE+1} (.row s.aE) d with
      |(aq,s1)=>xi cx r aq s1 (kl o s.aE (.row t z) p) (w++[true]) k
     | _,_=>aP.bad
    | _=>aP.bad
   |some x,some (.sl t y)=>match Nat.beq (J.es t) es,s0 x with
    |true,some (.k .emp)=>aP.cJ (hh bytes .emp y) fun z=>match put aq {s with aE:=s.aE+1} (.row s.aE) d with
     |(aq,s1)=>xi cx r aq s1 ((s.aE,.row t z)::p) (w++[true]) k
    | _,_=>aP.bad
   | _,_=>aP.bad
  |o=>xg cx [o] aq s fun aq s=>xi cx r aq s p (w++[false]) k
def adi (cx:oj J)(eK:List Nat)(ops:List bU)(n:Nat)(s:bE J)(k:bE J->A):A:=
 xi cx (ops.take n) [] s [] [] fun aq s p w=>so cx (ops.drop n) aq {s with mem:=p++s.mem} w.reverse fun ar wr=>match DQ eK ops w wr with
  |true=>k ar
  |false=>aP.bad
def adj (W:List Nat)(s:bE J)(sl:List Nat)(p:qg (bE J))(k:bE J->A):A:=match DV W p with
 |true=>vk s.aQ.length s.aE p sl {blank W [] s with dR:=sl++(W++s.dR)} k
 |false=>aP.bad
noncomputable def L9 (f:kI J->{A:Type}->[aP A]->bE J->(X->bE J->A)->A)(W:List Nat)(hd:nI J)(os:yR J)(x:kI J)(s:bE J)(k:X->bE J->A):A:=match pg s.aQ.length s.aE (iD hd) s [] hd with
 |none=>aP.bad
 |some vl=>aP.cJ (bW (fun st=>f x (A:=Option (cH (dF J (jd hd)) (Bi J (Bm os)))) (fresh (enter W [] hd st s)) fun x ar=>match x with
   | .normal=>match DU s.aQ.length s.aE W [] hd ar with
     |some y=>some (.next y)
     |none=>none
   |x=>match Bn s.aQ.length s.aE (gd hd++W) (iD hd) x ar os with
    |some y=>some (.out y)
    |none=>none) vl) fun o=>
  leave (gd hd++W) (iD hd) s k os o
noncomputable def la (cx:oj J):cF->kI J->{A:Type}->[aP A]->bE J->(X->bE J->A)->A
 | .skip,_,_,_,s,k=>k .normal s
 | .ret,_,_,_,s,k=>k .ret s
 | .exit i,_,_,_,s,k=>k (.exit i) s
 | .region ops eK,an,_,_,s,k=>match an,eK with
   | .lt,some eK=>xg cx (ops.take (lk ops)) [] s fun aq s=>so cx (ops.drop (lk ops)) aq {s with mem:=[]} (List.replicate (lk ops) false) fun ar wr=>RW eK ops wr s.aE ar.mem (k .normal {ar with mem:=ar.mem++s.mem})
   | .md n,some eK=>adi cx eK ops n s fun s=>k .normal s
   | _,eK=>so cx ops [] s [] fun s wr=>L7 eK ops wr (k .normal s)
 | .seq a b,an,_,_,s,k=>match an with
   | .pc os x y=>aP.cJ (la cx a x (A:=Option (Bi J (Bm os))) (fresh s) fun x ar=>Bn s.aQ.length s.aE (kJ a) [] x ar os) fun o=>
     leave (kJ a) [] s (fun x ar=>match x with
      | .normal=>la cx b y ar k
      |x=>k x ar) os o
   | .pu sl y=>match a with
     | .region ops eK=>adj (qj ops) s sl (so cx ops [] {s with dR:=[],cL:=[]} [] fun s wr=>L7 eK ops wr (qg.leaf s)) fun ar=>la cx b y ar k
     | _=>aP.bad
   |an=>la cx a an.l s fun x s=>match x with
    | .normal=>la cx b an.r s k
    |x=>k x s
 | .cond c a b,an,_,_,s,k=>match ah [] s c with
   |none=>aP.bad
   |some v=>split s v (fun s=>la cx a an.l s k) (fun s=>la cx b an.r s k)
 | .block id a,an,_,_,s,k=>la cx a an s fun x s=>k (Di id x) s
 | .loop a,an,_,_,s,k=>match an with
   | .cy hd os x=>L9 (fun an {_:Type} [aP _] s k=>la cx a an s k) (kJ a) hd os x s k
   | .pl x (.cy hd os y)=>la cx a x s fun e ar=>match e with
     | .normal=>L9 (fun an {_:Type} [aP _] s k=>la cx a an s k) (kJ a) hd os y ar k
     |e=>k e ar
   | _=>aP.bad
 | _,_,_,_,_,_=>aP.bad
def Bo:(aX:List mo)->mq J aX->Nat->bE J->List (Hs J)->bE J × List (Hs J)
 |[],_,_,s,f=>(s,f)
 | .v t::r,x,j,s,f=>Bo r x.2 (j+1) {s with vs:=(j,J.h4 t x.1 s.aQ.length)::s.vs,aQ:=s.aQ++J.yM t x.1} f
 | .f ea rt::r,x,j,s,f=>Bo r x.2 (j+1) {s with vs:=(j,.fv f.length)::s.vs} (f++[⟨ea,rt,x.1⟩])
def Ma:(cs:List Nat)->dF J cs->Nat->bE J->Option (bE J)
 |[],_,_,s=>some s
 |t::r,x,j,s=>match sZ (J.h4 t (qh r x) s.aQ.length)with
  |none=>none
  |some cs=>Ma r (yP r x) (j+1) {s with vs:=(j,.ptr s.aE 0)::s.vs,mem:=s.mem++[(s.aE,.cells false cs)],aE:=s.aE+1,aQ:=s.aQ++J.yM t (qh r x)}
def Hz (s:bE J):List nr->Option (List (aR J.az))
 |[]=>some []
 |r::rs=>match(match r with
   | .tmp t=>bt s.vs t
   | .cell a sh=>match bt s.vs a with
     |some (.ptr o f)=>match bt s.mem o with
      |some (.cells _ cs)=>cut cs f sh
      | _=>none
     | _=>none)with
  |none=>none
  |some v=>match Hz s rs with
   |none=>none
   |some l=>some (v::l)
def RX (s:bE J)(res:List Nat)(vs:List (aR J.az)):Option (dF J res):=match vs with
 |[v]=>match mf 16 s.mem v with
  |some (v,_)=>rT s.aQ res [v]
  |none=>none
 |vs=>match vj (mf 15) s.mem vs with
  |some (vs,_)=>rT s.aQ res vs
  |none=>none
def vl:bE J:=⟨[],[],0,[],[],[],[]⟩
noncomputable def HA (T:List (ba J))(ty:List (Nat × Nat))(xd:List (Nat × Nat × Nat))(f:ix)(an:kI J)(caps:List Nat)(args:List mo)(res:List Nat)(c:dF J caps)(a:mq J args):Option (dF J res):=
 match Bo args a 0 vl []with
 |(s,fv)=>match Ma caps c args.length s with
  |none=>none
  |some s=>la ⟨T,fv,ty,xd⟩ f.body an s fun x s=>match x with
   | .exit _=>none
   | _=>match Hz s f.results with
     |some vs=>RX s res vs
     |none=>none
def iw{az:Nat->Type}(k:IntKind):aR az->Option Int
 | .int bJ n=>match decide (bJ=k)with
   |true=>some n
   |false=>none
 | _=>none
def Mb{az:Nat->Type}(B:List Bool):aR az->Option Bool
 | .b2 b=>some b
 | .bo i neg=>match nth B i with
   |some c=>match neg with
    |false=>some c
    |true=>some (!c)
   |none=>none
 | _=>none
def HB{az:Nat->Type}:aR az->Option ck
 | .str s=>some s
 | _=>none
def pj{az:Nat->Type}{R:Type}(f:List (aR az)->Option R):aR az->Option R
 | .agg vs=>f vs
 | _=>none
end
end Go.Abs.hv
namespace Go.Abs.bA
open Go Go.Abs Go.Abs.hv
def s5:Nat->Type
 |0=>Int
 |1=>Bool
 |2=>ck
 |3=>Int
 |4=>fp
 |5=>(ae fp)
 |6=>(ae Int)
 |7=>Range
 |8=>Table
 |9=>(ae Bool)
 |10=>(ae Table)
 |11=>(ae ck)
 |12=>(ae Range)
 |13=>Term
 |14=>(ae Term)
 |15=>Row
 |16=>Constraint
 |17=>(ae Constraint)
 |18=>c0
 |19=>(ae c0)
 |20=>Change
 |21=>(ae Change)
 |22=>(ae Row)
 |23=>kH
 |24=>(ae kH)
 |25=>dV
 |26=>Action
 |27=>(ae Action)
 |28=>Model
 |29=>eh
 |30=>Token
 |31=>(ae Token)
 |32=>(ae (ae Int))
 |33=>(ae (ae Change))
 |100=>List (ck × Bool)
 | _=>Unit
def arz:Nat->Nat
 |4=>3
 |7=>2
 |8=>6
 |13=>2
 |15=>2
 |16=>6
 |18=>3
 |20=>2
 |23=>3
 |25=>3
 |26=>5
 |28=>7
 |29=>8
 |30=>4
 | _=>1
def RY:(t:Nat)->s5 t->V
 |0,x=>ao x
 |1,x=>V.bool x
 |2,x=>V.str x
 |3,x=>(V.int .u8) x
 |4,x=>iv x
 |5,x=>(aV 3 iv) x
 |6,x=>(aV 1 ao) x
 |7,x=>rJ x
 |8,x=>jW x
 |9,x=>(aV 1 V.bool) x
 |10,x=>(aV 6 jW) x
 |11,x=>(aV 1 V.str) x
 |12,x=>(aV 2 rJ) x
 |13,x=>vc x
 |14,x=>(aV 2 vc) x
 |15,x=>vd x
 |16,x=>rL x
 |17,x=>(aV 6 rL) x
 |18,x=>rM x
 |19,x=>(aV 3 rM) x
 |20,x=>ua x
 |21,x=>(aV 2 ua) x
 |22,x=>(aV 2 vd) x
 |23,x=>ve x
 |24,x=>(aV 3 ve) x
 |25,x=>Dq x
 |26,x=>rN x
 |27,x=>(aV 5 rN) x
 |28,x=>ub x
 |29,x=>Ga x
 |30,x=>Dr x
 |31,x=>(aV 4 Dr) x
 |32,x=>(aV 1 (aV 1 ao)) x
 |33,x=>(aV 1 (aV 2 ua)) x
 | _,_=>.cu
def arA:(t:Nat)->s5 t->Nat->aR s5
 |0,x,n=>.int .i64 x
 |1,x,n=>.bo n false
 |2,x,n=>.str x
 |3,x,n=>.int .u8 x
 |4,x,n=>.agg [.int .i64 x.Table,.int .i64 x.dK,.int .i64 x.bS]
 |5,x,n=>.sl 4 x
 |6,x,n=>.sl 0 x
 |7,x,n=>.agg [.int .i64 x.fq,.int .i64 x.fr]
 |8,x,n=>.agg [.str x.Name,.int .i64 x.Kind,.sl 0 x.aZ,.int .i64 x.Range.fq,.int .i64 x.Range.fr,.int .i64 x.cz]
 |9,x,n=>.sl 1 x
 |10,x,n=>.sl 8 x
 |11,x,n=>.sl 2 x
 |12,x,n=>.sl 7 x
 |13,x,n=>.agg [.int .i64 x.Cell,.int .i64 x.hJ]
 |14,x,n=>.sl 13 x
 |15,x,n=>.agg [.sl 13 x.da,.int .i64 x.nF]
 |16,x,n=>.agg [.int .i64 x.Kind,.int .i64 x.og,.sl 13 x.Row.da,.int .i64 x.Row.nF,.int .i64 x.cz,.int .i64 x.rK]
 |17,x,n=>.sl 16 x
 |18,x,n=>.agg [.str x.Name,.bo n false,.sl 0 x.aA]
 |19,x,n=>.sl 18 x
 |20,x,n=>.agg [.int .i64 x.Cell,.int .i64 x.Add]
 |21,x,n=>.sl 20 x
 |22,x,n=>.sl 15 x
 |23,x,n=>.agg [.int .i64 x.Kind,.int .i64 x.Cell,.int .i64 x.Value]
 |24,x,n=>.sl 23 x
 |25,x,n=>.agg [.sl 20 x.Delta,.sl 15 x.fX,.sl 23 x.e4]
 |26,x,n=>.agg [.int .i64 x.c0,.sl 0 x.dQ,.sl 20 x.dV.Delta,.sl 15 x.dV.fX,.sl 23 x.dV.e4]
 |27,x,n=>.sl 26 x
 |28,x,n=>.agg [.sl 0 x.aA,.sl 8 x.Tables,.sl 2 x.eg,.sl 16 x.di,.sl 18 x.Operations,.sl 26 x.Actions,.sl 4 x.aW]
 |29,x,n=>.agg [.sl 0 x.Model.aA,.sl 8 x.Model.Tables,.sl 2 x.Model.eg,.sl 16 x.Model.di,.sl 18 x.Model.Operations,.sl 26 x.Model.Actions,.sl 4 x.Model.aW,.sl 7 x.strict]
 |30,x,n=>.agg [.int .i64 x.Kind,.int .i64 x.acI,.int .i64 x.At,.int .i64 x.End]
 |31,x,n=>.sl 30 x
 |32,x,n=>.sl 6 x
 |33,x,n=>.sl 21 x
 | _,_,_=>.k .cu
def arB:(t:Nat)->s5 t->List Bool
 |1,x=>[x]
 |18,x=>[x.Ordered]
 | _,_=>[]
def arC:(t:Nat)->aR s5->List Bool->Option (s5 t)
 |0,v,B=>iw .i64 v
 |1,v,B=>Mb B v
 |2,v,B=>HB v
 |3,v,B=>iw .u8 v
 |4,v,B=>pj (fun vs=>match vs with
  |[fi,cT,dI]=>(iw .i64 fi).bind fun cb=>(iw .i64 cT).bind fun bs=>(iw .i64 dI).bind fun cr=>some ⟨cb,bs,cr⟩
  | _=>none) v
 |5,v,B=>eM 4 v
 |6,v,B=>eM 0 v
 |7,v,B=>pj (fun vs=>match vs with
  |[fi,cT]=>(iw .i64 fi).bind fun cb=>(iw .i64 cT).bind fun bs=>some ⟨cb,bs⟩
  | _=>none) v
 |8,v,B=>pj (fun vs=>match vs with
  |[fi,cT,dI,fg,ic,il]=>(HB fi).bind fun cb=>(iw .i64 cT).bind fun bs=>(eM 0 dI).bind fun cr=>(iw .i64 fg).bind fun dA=>(iw .i64 ic).bind fun lB=>(iw .i64 il).bind fun ek=>some ⟨cb,bs,cr,⟨dA,lB⟩,ek⟩
  | _=>none) v
 |9,v,B=>eM 1 v
 |10,v,B=>eM 8 v
 |11,v,B=>eM 2 v
 |12,v,B=>eM 7 v
 |13,v,B=>pj (fun vs=>match vs with
  |[fi,cT]=>(iw .i64 fi).bind fun cb=>(iw .i64 cT).bind fun bs=>some ⟨cb,bs⟩
  | _=>none) v
 |14,v,B=>eM 13 v
 |15,v,B=>pj (fun vs=>match vs with
  |[fi,cT]=>(eM 13 fi).bind fun cb=>(iw .i64 cT).bind fun bs=>some ⟨cb,bs⟩
  | _=>none) v
 |16,v,B=>pj (fun vs=>match vs with
  |[fi,cT,dI,fg,ic,il]=>(iw .i64 fi).bind fun cb=>(iw .i64 cT).bind fun bs=>(eM 13 dI).bind fun cr=>(iw .i64 fg).bind fun dA=>(iw .i64 ic).bind fun lB=>(iw .i64 il).bind fun ek=>some ⟨cb,bs,⟨cr,dA⟩,lB,ek⟩
  | _=>none) v
 |17,v,B=>eM 16 v
 |18,v,B=>pj (fun vs=>match vs with
  |[fi,cT,dI]=>(HB fi).bind fun cb=>(Mb B cT).bind fun bs=>(eM 0 dI).bind fun cr=>some ⟨cb,bs,cr⟩
  | _=>none) v
 |19,v,B=>eM 18 v
 |20,v,B=>pj (fun vs=>match vs with
  |[fi,cT]=>(iw .i64 fi).bind fun cb=>(iw .i64 cT).bind fun bs=>some ⟨cb,bs⟩
  | _=>none) v
 |21,v,B=>eM 20 v
 |22,v,B=>eM 15 v
 |23,v,B=>pj (fun vs=>match vs with
  |[fi,cT,dI]=>(iw .i64 fi).bind fun cb=>(iw .i64 cT).bind fun bs=>(iw .i64 dI).bind fun cr=>some ⟨cb,bs,cr⟩
  | _=>none) v
 |24,v,B=>eM 23 v
 |25,v,B=>pj (fun vs=>match vs with
  |[fi,cT,dI]=>(eM 20 fi).bind fun cb=>(eM 15 cT).bind fun bs=>(eM 23 dI).bind fun cr=>some ⟨cb,bs,cr⟩
  | _=>none) v
 |26,v,B=>pj (fun vs=>match vs with
  |[fi,cT,dI,fg,ic]=>(iw .i64 fi).bind fun cb=>(eM 0 cT).bind fun bs=>(eM 20 dI).bind fun cr=>(eM 15 fg).bind fun dA=>(eM 23 ic).bind fun lB=>some ⟨cb,bs,⟨cr,dA,lB⟩⟩
  | _=>none) v
 |27,v,B=>eM 26 v
 |28,v,B=>pj (fun vs=>match vs with
  |[fi,cT,dI,fg,ic,il,HC]=>(eM 0 fi).bind fun cb=>(eM 8 cT).bind fun bs=>(eM 2 dI).bind fun cr=>(eM 16 fg).bind fun dA=>(eM 18 ic).bind fun lB=>(eM 26 il).bind fun ek=>(eM 4 HC).bind fun nb=>some ⟨cb,bs,cr,dA,lB,ek,nb⟩
  | _=>none) v
 |29,v,B=>pj (fun vs=>match vs with
  |[fi,cT,dI,fg,ic,il,HC,arD]=>(eM 0 fi).bind fun cb=>(eM 8 cT).bind fun bs=>(eM 2 dI).bind fun cr=>(eM 16 fg).bind fun dA=>(eM 18 ic).bind fun lB=>(eM 26 il).bind fun ek=>(eM 4 HC).bind fun nb=>(eM 7 arD).bind fun qc=>some ⟨⟨cb,bs,cr,dA,lB,ek,nb⟩,qc⟩
  | _=>none) v
 |30,v,B=>pj (fun vs=>match vs with
  |[fi,cT,dI,fg]=>(iw .i64 fi).bind fun cb=>(iw .i64 cT).bind fun bs=>(iw .i64 dI).bind fun cr=>(iw .i64 fg).bind fun dA=>some ⟨cb,bs,cr,dA⟩
  | _=>none) v
 |31,v,B=>eM 30 v
 |32,v,B=>eM 6 v
 |33,v,B=>eM 21 v
 | _,_,_=>none
def arE (t:Nat):Bool:=match t with
 |0=>true
 |1=>true
 |2=>true
 |3=>true
 | _=>false
def RZ:Nat->Option Nat
 |0=>some 0
 |2=>some 1
 | _=>none
def arF:(t:Nat)->s5 t->s5 t->Bool
 |0,a,c=>@BEq.beq Int _ a c
 |2,a,c=>@BEq.beq ck _ a c
 | _,_,_=>false
def R0:Nat->Option (Nat × Nat)
 |100=>some (2,1)
 | _=>none
theorem arG (c:Nat)(p:Nat × Nat)(h:R0 c=some p):s5 c=List (s5 p.1 × s5 p.2):=by
 unfold R0 at h;split at h<;>cases h<;>rfl
abbrev aK:iT:=⟨s5,arz,RY,arA,arB,arC,arE,RZ,arF,R0,arG⟩
end Go.Abs.bA
namespace Go.Abs.hv
open Go Go.Abs
structure mr {A:Type} [aP A] (S:A->Prop):Prop where
 bad:¬S aP.bad
 br:∀{i:Nat} {c:Bool} {x y:A},S (aP.br i c x y)->(c=true/\S x)\/(c=false/\S y)
 cJ:∀{α:Type} {o:Option α} {f:α->A},S (aP.cJ o f)->∃x,o=some x/\S (f x)
theorem R1{R:Type}(r:R):mr (A:=Option R) (fun a=>a=some r) where
 bad:=fun h=>by cases h
 br:=fun h=>nD h
 cJ:=fun h=>bind_some h
def qg.val{R:Type}:qg R->Option R
 | .leaf a=>some a
 | .br _ c t e=>bif c then t.val else e.val
 | .bad=>none
theorem arH{R:Type}(r:R):mr (A:=qg R) (fun a=>a.val=some r) where
 bad:=fun h=>by cases h
 br:=fun h=>nD h
 cJ:=fun h=>by cases h
section
variable{J:iT}
def qk (J:iT)(b:Nat)(B:List Bool)(ρ fs:List V)(o:Nat)(m:List (Nat × cf)):cp J->Prop
 | .cells w cs=>∃a ws,ρ[o]? =some (.ptr a 0)/\m=[(a,.cells ws)]/\bG J B ρ fs cs ws/\(w=true->b<=a)
 | .row t s=>∃v,ρ[o]? =some v/\e3 b (J.es t) (J.enc t) v s m
 | .fz t s=>∃v m0,ρ[o]? =some v/\e3 b (J.es t) (J.enc t) v s m0/\(m=m0\/m=Go.Abs.mf m0)
 | .mp k w x=>∃a,ρ[o]? =some (.map a)/\m=[(a,.map (gr (J.enc k) (J.enc w) x))]/\b<=a
def dB (s:bE J)(G:Nat->List (Nat × cf))(F:cG):cG:=s.mem.map (fun e=>G e.1)++F
structure cd (J:iT) (b:Nat) (F:cG) (fs:List V) (s:bE J) (σ:bY) (H:Heap) (G:Nat->List (Nat × cf)) (ρ:List V):Prop where
 aE:ρ.length=s.aE
 vs:∀t v,bt s.vs t=some v->b8 J s.aQ ρ fs v (σ t)
 own:Own H (dB s G F)
 dt:(s.mem.map Prod.fst).Nodup
 lt:∀e∈s.mem,e.1<s.aE
 mem:∀o aY,bt s.mem o=some aY->qk J b s.aQ ρ fs o (G o) aY
 du:∀i β,bt s.du i=some β->s.aQ[i]? =some β
structure jY (s ar:bE J):Prop where
 vs:ar.vs=s.vs
 mem:ar.mem=s.mem
 aE:ar.aE=s.aE
 dR:ar.dR=s.dR
 cL:ar.cL=s.cL
 aQ:s.aQ <+: ar.aQ
 du:(∀i β,bt s.du i=some β->s.aQ[i]? =some β)->∀i β,bt ar.du i=some β->ar.aQ[i]? =some β
theorem jY.rfl{s:bE J}:jY s s:=⟨Eq.refl _,Eq.refl _,Eq.refl _,Eq.refl _,Eq.refl _,ei,fun h=>h⟩
theorem jY.trans{s ar HD:bE J}(h:jY s ar)(k:jY ar HD):jY s HD:=
 ⟨k.vs.trans h.vs,k.mem.trans h.mem,k.aE.trans h.aE,k.dR.trans h.dR,k.cL.trans h.cL,h.aQ.trans k.aQ,fun q=>k.du (h.du q)⟩
variable{b:Nat}{F:cG}{fs:List V}{s ar:bE J}{σ a8:bY}{H:Heap}{G:Nat->List (Nat × cf)}{ρ:List V}{aq:k7 J}{call:c5}
theorem qk.mono{B uj:List Bool}{cR:List V}(dM:B <+: uj)(aU:ρ <+: cR){o:Nat}{m:List (Nat × cf)}:∀{aY:cp J},qk J b B ρ fs o m aY->qk J b uj cR fs o m aY
 | .cells w cs,⟨a,ws,h1,h2,au,a7⟩=>⟨a,ws,lZ aU h1,h2,au.mono dM aU,a7⟩
 | .row t s,⟨v,h1,h2⟩=>⟨v,lZ aU h1,h2⟩
 | .fz t s,⟨v,m0,h1,h2⟩=>⟨v,m0,lZ aU h1,h2⟩
 | .mp k w x,⟨a,h1,h2⟩=>⟨a,lZ aU h1,h2⟩
theorem cd.eH (R:cd J b F fs s σ H G ρ)(k:jY s ar):cd J b F fs ar σ H G ρ where
 aE:=by rw[k.aE];exact R.aE
 vs:=fun t v h=>by rw[k.vs]at h;exact(R.vs t v h).mono k.aQ ei
 own:=by have:=R.own;unfold dB at this⊢; rw[k.mem];exact this
 dt:=by rw[k.mem];exact R.dt
 lt:=by rw[k.mem,k.aE];exact R.lt
 mem:=fun o aY h=>by rw[k.mem]at h;exact(R.mem o aY h).mono k.aQ ei
 du:=k.du R.du
theorem jA{α:Type}{l:List (Nat × α)}{t:Nat}{a:α}(h:bt l t=some a):(t,a)∈l:=by
 induction l with
 |nil=>cases h
 |cons p l ih=>
  obtain⟨k,c⟩:=p;rw[gk]at h;split at h
  ·rename_i e;cases h;subst e;simp
  ·exact lf _ (ih h)
theorem cd.at (R:cd J b F fs s σ H G ρ){o:Nat}{aY:cp J}(h:bt s.mem o=some aY):∃k,(dB s G F)[k]? =some (G o)/\k<s.mem.length/\∃hk:k<s.mem.length,s.mem[k].1=o:=by
 obtain⟨k,hk,e⟩:=List.mem_iff_getElem.1 (jA h);refine⟨k,?_,hk,hk,by rw[e]⟩;unfold dB;rw[fY (by simpa using hk),iH,jD hk,e];rfl
theorem cd.cells (R:cd J b F fs s σ H G ρ){o:Nat}{w:Bool}{cs:List (aR J.az)}(h:bt s.mem o=some (.cells w cs)):
  ∃a ws,ρ[o]? =some (.ptr a 0)/\G o=[(a,.cells ws)]/\(∀H',Own H' (dB s G F)->H'[a]? =some (.cells ws))/\bG J s.aQ ρ fs cs ws/\(w=true->b<=a):=by
 obtain⟨a,ws,h1,h2,au,a7⟩:=R.mem o _ h;obtain⟨k,hk,-⟩:=R.at h;exact⟨a,ws,h1,h2,fun H' av=>av.get k (by rw[hk,h2]),au,a7⟩
mutual
theorem Mc{B:List Bool}:∀v:V,b8 J B ρ fs (Ho v) v
 | .bool _=>.b2
 | .int _ _=>.int
 | .str _=>.str
 | .agg vs=>.agg (HE vs)
 | .cu| .emp| .list _ _| .aF _| .jj| .ptr _ _| .hz .. | .dz _ _| .cB .. | .jk| .map _| .kr| .fn _ _ _| .yield _| .j5| .iface _ _| .undef=>.k
theorem HE{B:List Bool}:∀vs:List V,bG J B ρ fs (DT vs) vs
 |[]=>.nil
 |v::r=>.cons (Mc v) (HE r)
end
theorem Bp{B:List Bool}{v:aR J.az}{w:V}{cs:List (aR J.az)}(h:sZ v=some cs)(af:b8 J B ρ fs v w):bG J B ρ fs cs (aI w):=by
 cases af<;>simp only[sZ]at h
 case agg h'=>cases h;exact h'
 case aF=>cases h
 case row=>cases h
 case hN=>cases h
 case lC=>cases h
 case fv=>cases h
 case lD=>cases h
 case k=>
  split at h
  ·cases h
  ·cases h
   cases w<;>first|exact .cons .k .nil|simp_all
 case sl=>cases h;rw[F3];exact .cons .sl .nil
 all_goals cases h
 ·exact .cons .int .nil
 ·exact .cons .b2 .nil
 ·rename_i h';exact .cons (.bo h') .nil
 ·exact .cons .str .nil
 ·rename_i h';exact .cons (.dz h') .nil
 ·rename_i h';exact .cons (.ptr h') .nil
 ·rename_i h';exact .cons (.fn h') .nil
theorem adk{B:List Bool}{v:aR J.az}{w:V}(h:LR v=true)(af:b8 J B ρ fs v w):dY w=true:=by
 cases af<;>simp only[LR]at h<;>first|rfl|exact aoD _ _ _|exact h|cases h
theorem R2{B:List Bool}:∀{cs:List (aR J.az)} {ws:List V},Hp cs=true->bG J B ρ fs cs ws->bM ws=true
 | _,_,_,.nil=>rfl
 | _,_,h,.cons h' r=>by
   simp only[Hp]at h;split at h
   ·rename_i e;simp only[bM,adk e h',R2 h r,xR]
   ·cases h
theorem adl (R:cd J b F fs s σ H G ρ){o:Nat}{w:V}(h:xf s.mem o=true)(af:b8 J s.aQ ρ fs (.row o) w):aI w=[w]/\dY w=true:=by
 unfold xf at h;split at h
 ·rename_i hm
  obtain⟨v,h1,h2⟩:=R.mem _ _ hm;cases af with
  |row au=>
   rw[h1]at au;cases au;exact⟨h2.cells,h2.dY⟩
 ·cases h
theorem arI (R:cd J b F fs s σ H G ρ){v:aR J.az}{w:V}{cs:List (aR J.az)}(h:RS s.mem v=some cs)(af:b8 J s.aQ ρ fs v w):bG J s.aQ ρ fs cs (aI w):=by
 unfold RS at h;split at h
 ·split at h
  ·rename_i e
   cases h;rw[(adl R e af).1];exact .cons af .nil
  ·cases h
 ·exact Bp h af
theorem adm (R:cd J b F fs s σ H G ρ):∀{cs:List (aR J.az)} {ws:List V},L3 s.mem cs=true->bG J s.aQ ρ fs cs ws->bM ws=true
 | _,_,_,.nil=>rfl
 | _,_,h,.cons (w:=w) h' r=>by
   unfold L3 at h;split at h
   ·rename_i e
    have:dY w=true:=by
     split at e
     ·exact(adl R e h').2
     ·exact adk e h'
    simp only[bM,this,adm R h r,xR]
   ·cases h
theorem HF{B:List Bool}{cs:List (aR J.az)}{ws:List V}{off:Nat}{sh:Option Nat}{v:aR J.az}(h:cut cs off sh=some v)(hc:bG J B ρ fs cs ws):∃w,iV ws off sh=some w/\b8 J B ρ fs v w:=by
 cases sh with
 |none=>
  simp only[cut,xb]at h;exact hc.get h
 |some n=>
  simp only[cut]at h;split at h
  ·rename_i e
   cases h;refine⟨_,?_,.agg ((hc.drop off).take n)⟩;simp only[iV];rw[if_pos (by rw[<-hc.length];exact j1 e)]
  ·cases h
theorem Md{B:List Bool}:∀{xs:List (aR J.az)} {cQ:List V},bG J B ρ fs xs cQ->∀{cs:List (aR J.az)} {ws:List V} (o:Nat),bG J B ρ fs cs ws->bG J B ρ fs (vh cs o xs) (setCells ws o cQ)
 | _,_,.nil,_,_,_,h=>h
 | _,_,.cons h' r,_,_,o,h=>Md r (o+1) (h.set o h')
theorem c3 (R:cd J b F fs s σ H G ρ)(b0:∀t v,bt aq t=some v->b8 J s.aQ ρ fs v (a8 t)):∀{x:ai} {v:aR J.az},ah aq s x=some v->b8 J s.aQ ρ fs v (bB a8 σ x)
 | .tmp t,_,h=>b0 t _ h
 | .var t,_,h=>R.vs t _ h
 | .const v,_,h=>by cases h;exact Mc v
 | .func i,_,h=>by cases h;exact .fn .nil
theorem xj (R:cd J b F fs s σ H G ρ)(b0:∀t v,bt aq t=some v->b8 J s.aQ ρ fs v (a8 t)):∀{xs:List ai} {vs:List (aR J.az)},xc aq s xs=some vs->bG J s.aQ ρ fs vs (xs.map (bB a8 σ))
 |[],_,h=>by cases h;exact .nil
 |x::r,_,h=>by
  simp only[xc]at h;split at h
  ·rename_i v e
   split at h
   ·rename_i l e2
    cases h;exact .cons (c3 R b0 e) (xj R b0 e2)
   ·cases h
  ·cases h
section
variable{A:Type}[aP A]{S:A->Prop}
theorem DW (aC:mr S){v:aR J.az}{w:V}{nE cI:bE J->A}(h:S (split s v nE cI))(hk:∀i β,bt s.du i=some β->s.aQ[i]? =some β)(af:b8 J s.aQ ρ fs v w):
  ∃β ar,w=.bool β/\jY s ar/\ar.aQ=s.aQ/\((β=true/\S (nE ar))\/(β=false/\S (cI ar))):=by
 cases af<;>simp only[split]at h
 case b2 b=>cases b<;>exact⟨_,s,rfl,.rfl,rfl,by simpa using h⟩
 case bo i b neg hb=>
  split at h
  ·rename_i eN e
   have hB:=hk _ _ e;rw[hb]at hB;cases hB;refine⟨_,s,rfl,.rfl,rfl,?_⟩;cases b<;>cases neg<;>simpa using h
  ·rename_i e
   rw[xb,hb]at h
   have key:∀β,b=β->jY s {s with du:=(i,β)::s.du}:=fun β p5=>⟨rfl,rfl,rfl,rfl,rfl,ei,fun q j Me hj=>by
    rw[gk]at hj;split at hj
    ·rename_i e;cases hj;subst e;rw[<-p5];exact hb
    ·exact q j Me hj⟩
   cases neg<;>simp only at h<;>rcases aC.br h with⟨hc,h2⟩|⟨hc,h2⟩<;>subst hc
   ·exact⟨_,_,rfl,key true rfl,rfl,.inl ⟨rfl,h2⟩⟩
   ·exact⟨_,_,rfl,key false rfl,rfl,.inr ⟨rfl,h2⟩⟩
   ·exact⟨_,_,rfl,key true rfl,rfl,.inr ⟨rfl,h2⟩⟩
   ·exact⟨_,_,rfl,key false rfl,rfl,.inl ⟨rfl,h2⟩⟩
 all_goals exact absurd h aC.bad
theorem DX{v:aR J.az}{w:V}{c:Bool}(h:yN s v=some c)(af:b8 J s.aQ ρ fs v w):w=.bool c:=by
 cases af<;>simp only[yN]at h
 case b2=>cases h;rfl
 case bo i b neg hb=>
  rw[xb,hb]at h;cases neg<;>cases h<;>simp
 all_goals cases h
theorem arJ (c:Bool):jY s {s with aQ:=s.aQ++[c]}:=⟨rfl,rfl,rfl,rfl,rfl,hP _ _,fun q i β h=>lZ (hP _ _) (q i β h)⟩
theorem Mf (l:List Bool):jY s {s with aQ:=s.aQ++l}:=⟨rfl,rfl,rfl,rfl,rfl,hP _ _,fun q i β h=>lZ (hP _ _) (q i β h)⟩
theorem adn{c neg:Bool}{k:aR J.az->bE J->A}(h:S (name s c neg k)):∃v ar,S (k v ar)/\jY s ar/\b8 J ar.aQ ρ fs v (.bool (c != neg)):=
 ⟨_,_,h,arJ c,.bo (by simp)⟩
theorem Bq (a6:gv J){t:Nat}{x:J.az t}{k:aR J.az->bE J->A}(h:S (elem t x s k)):∃v ar,S (k v ar)/\jY s ar/\b8 J ar.aQ ρ fs v (J.enc t x):=
 ⟨_,_,h,Mf _,a6.h4 t x s.aQ ρ fs⟩
end
end
end Go.Abs.hv
