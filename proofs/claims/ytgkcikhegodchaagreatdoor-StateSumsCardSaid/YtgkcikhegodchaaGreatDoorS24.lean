/- Texts of this claim, joined and written short by a program. -/
import Derived.Test.YtgkcikhegodchaaGreatDoorS23
import Derived.Test.YtgkcikhegodchaaGreatDoorS21
import Derived.Test.YtgkcikhegodchaaGreatDoorS00
set_option linter.unusedVariables false
set_option linter.unusedSimpArgs false
set_option linter.unusedSectionVars false
namespace Go.Abs.hq
open Go Go.Abs
inductive l5 where
 |v (t:Nat)
 |f (dN:List Nat) (rt:Nat)
 deriving DecidableEq
section
variable (J:iI)
def ea:List Nat->Type
 |[]=>Unit
 |a::r=>match r with
  |[]=>J.ax a
  | _::_=>J.ax a × ea r
def ape:l5->Type
 | .v t=>J.ax t
 | .f dN rt=>ea J dN->Option (J.ax rt)
def oR:List l5->Type
 |[]=>Unit
 |a::r=>ape J a × oR r
def Ah:List (List Nat)->Type
 |[]=>Unit
 |a::r=>match r with
  |[]=>ea J a
  | _::_=>cz (ea J a) (Ah r)
structure cq where
 id:Nat
 caps:List Nat
 args:List l5
 res:List Nat
 fn:ea J caps->oR J args->Option (ea J res)
structure Gh where
 dN:List Nat
 rt:Nat
 f:ea J dN->Option (J.ax rt)
structure od where
 T:List (cq J)
 fv:List (Gh J)
 ty:List (Nat × Nat)
 q7:List (Nat × Nat × Nat)
end
section
variable{J:iI}{A:Type}[aG A]
def x0{a:Nat}:(r:List Nat)->J.ax a->ea J r->ea J (a::r)
 |[],x,_=>x
 | _::_,x,y=>(x,y)
def pE{a:Nat}:(r:List Nat)->ea J (a::r)->J.ax a
 |[],x=>x
 | _::_,x=>x.1
def x1{a:Nat}:(r:List Nat)->ea J (a::r)->ea J r
 |[],_=>()
 | _::_,x=>x.2
def KC:(dN:List Nat)->ea J dN->oR J (dN.map l5.v)
 |[],_=>()
 | _::r,x=>(pE r x,KC r (x1 r x))
def q8 (B:List Bool):(ts:List Nat)->List (aL J.ax)->Option (ea J ts)
 |[],[]=>some ()
 |t::ts,v::vs=>match J.iJ t v B with
  |none=>none
  |some x=>match q8 B ts vs with
   |none=>none
   |some l=>some (x0 ts x l)
 | _,_=>none
def Ql (m:List (Nat × b8 J)):aL J.ax->Option (aL J.ax)
 | .ptr o 0=>match bc m o with
   |some (.cells _ [c])=>match c with
    | .agg _=>none
    |c=>match sr c with
     |some _=>some c
     |none=>none
   |some (.cells _ cs)=>some (.agg cs)
   | _=>none
 | _=>none
def Gi:List (aL J.ax)->List Nat->Bool
 |[],_=>true
 | .ptr o _::r,l=>match mem o l with
   |true=>false
   |false=>Gi r (o::l)
 | _::_,_=>false
def Ai:List l5->Bool
 |[]=>true
 | .v _::r=>Ai r
 | .f .. ::_=>false
def Gj (m:List (Nat × b8 J)):List (aL J.ax)->Option (List (aL J.ax))
 |[]=>some []
 |v::r=>match Ql m v with
  |none=>none
  |some c=>match Gj m r with
   |none=>none
   |some l=>some (c::l)
def wE:List (cq J)->Nat->Option (cq J)
 |[],_=>none
 |e::r,i=>match Nat.beq e.id i with
  |true=>some e
  |false=>wE r i
def Qm (cx:od J)(s:bp J)(dN:List Nat)(rt:Nat):aL J.ax->Option (ea J dN->Option (J.ax rt))
 | .fv j=>match nth cx.fv j with
   |none=>none
   |some f=>if h:f.dN=dN/\f.rt=rt then some fun z=>h.2 ▸ f.f (h.1 ▸ z)else none
 | .fn i cs=>match wE cx.T i with
   |none=>none
   |some e=>match Gj s.mem cs,Gi cs []with
    |some vs,true=>match q8 s.aH e.caps vs with
     |none=>none
     |some c=>if h:e.args=dN.map l5.v/\e.res=[rt]then some fun z=>(congrArg (fun l=>Option (ea J l)) h.2).mp (e.fn c (h.1 ▸ KC dN z))else none
    | _,_=>none
 | _=>none
def x2 (cx:od J)(s:bp J):(aQ:List l5)->List (aL J.ax)->Option (oR J aQ)
 |[],[]=>some ()
 | .v t::aQ,v::vs=>match J.iJ t v s.aH with
   |none=>none
   |some x=>match x2 cx s aQ vs with
    |none=>none
    |some l=>some (x,l)
 | .f dN rt::aQ,v::vs=>match Qm cx s dN rt v with
   |none=>none
   |some x=>match x2 cx s aQ vs with
    |none=>none
    |some l=>some (x,l)
 | _,_=>none
def elems:(ts:List Nat)->ea J ts->bp J->(List (aL J.ax)->bp J->A)->A
 |[],_,s,k=>k [] s
 |t::ts,x,s,k=>elem t (pE ts x) s fun v s=>elems ts (x1 ts x) s fun vs s=>k (v::vs) s
def KD (ts:List Nat)(x:ea J ts)(s:bp J)(k:aL J.ax->bp J->A):A:=elems ts x s fun vs s=>match vs with
 |[v]=>k v s
 |vs=>k (.aU vs) s
def KE (cx:od J)(s:bp J)(f:aL J.ax)(aQ:List (aL J.ax))(k:aL J.ax->bp J->A):A:=match f with
 | .fv j=>match nth cx.fv j with
   |none=>aG.bad
   |some f=>match q8 s.aH f.dN aQ with
    |none=>aG.bad
    |some a=>aG.ct (f.f a) fun r=>elem f.rt r s k
 | .fn i cs=>match wE cx.T i with
   |none=>aG.bad
   |some e=>match Gj s.mem cs,Gi cs [],(match cs with|[]=>true| _=>Ai e.args)with
    |some vs,true,true=>match q8 s.aH e.caps vs with
     |none=>aG.bad
     |some c=>match x2 cx s e.args aQ with
      |none=>aG.bad
      |some a=>aG.ct (e.fn c a) fun r=>KD e.res r s k
    | _,_,_=>aG.bad
 | _=>aG.bad
def iX (o:Nat)(b:b8 J):List (Nat × b8 J)->List (Nat × b8 J)
 |[]=>[]
 |(k,c)::r=>match Nat.beq k o with
  |true=>(k,b)::r
  |false=>(k,c)::iX o b r
def marks (o f:Nat):Nat->List (Nat × Nat)->List (Nat × Nat)
 |0,l=>l
 |n+1,l=>(o,f+n)::marks o f n l
def kK (s:bp J)(b:b8 J):bp J:={s with mem:=(s.aB,b)::s.mem,aB:=s.aB+1}
def pF (o:Nat):List (Nat × b8 J)->List (Nat × b8 J)
 |[]=>[]
 |(k,c)::r=>match Nat.beq k o with
  |true=>r
  |false=>(k,c)::pF o r
def j8 (o n:Nat)(b:b8 J):List (Nat × b8 J)->List (Nat × b8 J)
 |[]=>[]
 |(k,c)::r=>match Nat.beq k o with
  |true=>(n,b)::r
  |false=>(k,c)::j8 o n b r
def uI (f:List (Nat × b8 J)->aL J.ax->Option (aL J.ax × List (Nat × b8 J))):List (Nat × b8 J)->List (aL J.ax)->Option (List (aL J.ax) × List (Nat × b8 J))
 |m,[]=>some ([],m)
 |m,v::r=>match f m v with
  |none=>none
  |some (v',m)=>match uI f m r with
   |none=>none
   |some (l,m)=>some (v'::l,m)
def l0:Nat->List (Nat × b8 J)->aL J.ax->Option (aL J.ax × List (Nat × b8 J))
 |0,_,_=>none
 |n+1,m,v=>match v with
  | .row o=>match bc m o with
    |some (.row t x)=>some (.sl t x,iX o (.fz t x) m)
    |some (.fz t x)=>some (.sl t x,m)
    | _=>none
  | .agg vs=>match uI (l0 n) m vs with
    |some (l,m)=>some (.agg l,m)
    |none=>none
  | .aU vs=>match uI (l0 n) m vs with
    |some (l,m)=>some (.aU l,m)
    |none=>none
  | .int k i=>some (.int k i,m)
  | .cX b=>some (.cX b,m)
  | .bo i b=>some (.bo i b,m)
  | .str b=>some (.str b,m)
  | .sl t x=>some (.sl t x,m)
  | .k v=>match bx v with
    |true=>some (.k v,m)
    |false=>none
  | _=>none
mutual
def apf:aL J.ax->Bool
 | .row _=>true
 | .agg vs=>KF vs
 | .aU vs=>KF vs
 | _=>false
def KF:List (aL J.ax)->Bool
 |[]=>false
 |v::r=>match apf v with
  |true=>true
  |false=>KF r
end
def Gk:List Nat->Bool
 |[]=>true
 |t::r=>match J.aY t with
  |true=>Gk r
  |false=>false
def Qn (cx:od J)(s:bp J)(f:aL J.ax)(aQ:List (aL J.ax))(k:aL J.ax->bp J->A):A:=match f with
 | .fn i []=>match wE cx.T i,uI (l0 16) s.mem aQ with
   |some e,some (sL,_)=>match q8 s.aH e.caps [],x2 cx s e.args sL,Ai e.args with
    |some c,some a,true=>aG.ct (e.fn c a) fun r=>KD e.res r s fun v s=>match Gk (J:=J) e.res with
     |true=>k v s
     |false=>match v with
      | .sl _ x=>aG.br s.aH.length x.isNil (k (.k .bX) s) aG.bad
      | _=>aG.bad
    | _,_,_=>aG.bad
   | _,_=>aG.bad
 | _=>aG.bad
def gone (m':List (Nat × b8 J)):List (Nat × b8 J)->List (Nat × Nat)
 |[]=>[]
 |(o,aP)::r=>match aP with
  | .row _ _=>match bc m' o with
    |some (.fz _ _)=>(o,0)::gone m' r
    | _=>gone m' r
  | _=>gone m' r
def Qo (cx:od J)(s:bp J)(f:aL J.ax)(aQ:List (aL J.ax))(k:aL J.ax->bp J->A):A:=match f with
 | .fn i []=>match wE cx.T i,uI (l0 16) s.mem aQ with
   |some e,some (sL,m')=>match q8 s.aH e.caps [],x2 cx s e.args sL,Ai e.args with
    |some c,some a,true=>aG.ct (e.fn c a) fun r=>KD e.res r s fun v ao=>k v {ao with mem:=m',cA:=gone m' s.mem++ao.cA}
    | _,_,_=>aG.bad
   | _,_=>aG.bad
 | _=>aG.bad
def su (s:bp J)(es bytes t:Nat)(x:ad (J.ax t))(o:Option Nat)(y:aL J.ax)(k:aL J.ax->bp J->Bool->A):A:=match Nat.beq (J.es t) es,ev t y with
 |true,some y=>aG.ct (gn bytes x y) fun z=>match o with
  |some o=>k (.row s.aB) {s with mem:=j8 o s.aB (.row t z) s.mem,aB:=s.aB+1,cA:=(o,0)::s.cA} true
  |none=>k (.row s.aB) (kK s (.row t z)) true
 | _,_=>aG.bad
def KG (s:bp J)(es bytes t:Nat)(x:aL J.ax)(q:ad (J.ax t))(k:aL J.ax->bp J->Bool->A):A:=match x with
 | .row o=>match bc s.mem o with
   |some (.row ej x)=>su s es bytes ej x (some o) (.sl t q) k
   | _=>aG.bad
 |x=>match ss x with
  |some (.k .bX)=>su s es bytes t .nil none (.sl t q) k
  |some (.k .emp)=>su s es bytes t .emp none (.sl t q) k
  | _=>aG.bad
def Qp:ai->ai->Bool
 | .tmp a,.tmp b=>Nat.beq a b
 | .var a,.var b=>Nat.beq a b
 | .const (.int _ a),.const (.int _ b)=>decide (a=b)
 | _,_=>false
def Qq:aL J.ax->Bool
 | .int .. | .cX _| .bo .. | .str _| .sl .. | .ptr .. | .fn .. =>true
 | .k v=>plainCell v
 | _=>false
def KH:List (aL J.ax)->Bool
 |[]=>true
 |v::r=>match Qq v with
  |true=>KH r
  |false=>false
def nk (w:aL J.ax)(f:Nat)(vs:List (aL J.ax)):Option (aL J.ax):=match w with
 | .agg cs=>match Nat.ble (f+vs.length) cs.length with
   |true=>some (.agg (uG cs f vs))
   |false=>none
 | .ln| .row _| .fv _| .k _| .jq .. | .ll .. =>none
 | _=>match f,vs with
   |0,[x]=>some x
   | _,_=>none
def wF (m:List (Nat × b8 J))(o:Nat):Bool:=match bc m o with
 |some (.row ..)=>true
 | _=>false
def Qr (m:List (Nat × b8 J)):aL J.ax->Option (List (aL J.ax))
 | .row o=>match wF m o with
   |true=>some [.row o]
   |false=>none
 |v=>sr v
def KI (m:List (Nat × b8 J)):List (aL J.ax)->Bool
 |[]=>true
 |v::r=>match(match v with| .row o=>wF m o|v=>Kx v)with
  |true=>KI m r
  |false=>false
def Qs (aq:kJ J)(s:bp J)(len:Nat)(parts:List (Nat × ai))(ju:Bool):Option (Nat × ai):=match len,parts,ju with
 |1,[(0,x)],true=>match ag aq s x with
  |some (.row o)=>some (o,x)
  | _=>none
 | _,_,_=>none
def aa5 (s:bp J)(p:Nat × Nat)(aQ:List (aL J.ax))(k:aL J.ax->bp J->Bool->A):A:=match p.2 with
 |0=>match aQ with
  |[.row o]=>match bc s.mem o with
   |some (.row t x)=>match Nat.beq t p.1 with
    |true=>aG.ct (aaO x) fun z=>k (.k (.aU [])) {s with mem:=iX o (.row t z) s.mem,cA:=(o,0)::s.cA} true
    |false=>aG.bad
   | _=>aG.bad
  |[.k .bX]=>k (.k (.aU [])) s true
  | _=>aG.bad
 |1=>match aQ with
  |[.row o,.int aa6 a,.int q6 c]=>match bc s.mem o with
   |some (.row t x)=>match Nat.beq t p.1,decide (aa6=.i64),decide (q6=.i64)with
    |true,true,true=>aG.ct (aaP x a c) fun z=>k (.sl t z) {s with mem:=pF o s.mem,cA:=(o,0)::s.cA} true
    | _,_,_=>aG.bad
   | _=>aG.bad
  | _=>aG.bad
 | _=>match aQ with
   |[v]=>match ev p.1 v with
    |some x=>aG.ct (xO p.2 x) fun z=>k (.row s.aB) (kK s (.row p.1 z)) true
    |none=>aG.bad
   | _=>aG.bad
def oper (cx:od J)(aq:kJ J)(s:bp J)(d:Option (Nat × Bool))(k:aL J.ax->bp J->Bool->A):cN->A
 | .alloc z=>k (.ptr s.aB 0) (kK s (.cells true (CU z))) true
 | .box x=>match ag aq s x with
   |none=>aG.bad
   |some v=>match sr v with
    |none=>aG.bad
    |some cs=>match Ge cs with
     |true=>k (.ptr s.aB 0) (kK s (.cells true cs)) true
     |false=>aG.bad
 | .store n x y=>match ag aq s x,ag aq s y with
   |some (.ptr o f),some v=>match bc s.mem o,Qr s.mem v with
    |some (.cells true cs),some vs=>match Nat.beq vs.length n,Nat.ble (f+n) cs.length,KI s.mem vs with
     |true,true,true=>k (.k .undef) {s with mem:=iX o (.cells true (uG cs f vs)) s.mem,cA:=marks o f vs.length s.cA} true
     | _,_,_=>aG.bad
    | _,_=>aG.bad
   |some (.jq o i f),some v=>match bc s.mem o,sr v with
    |some (.row t a),some vs=>match Nat.beq vs.length n,KH vs with
     |true,true=>aG.ct (bj a.l i) fun e=>elem t e s fun w s=>match nk w f vs with
      |none=>aG.bad
      |some w=>match J.iJ t w s.aH with
       |none=>aG.bad
       |some e'=>k (.k .undef) {s with mem:=iX o (.row t (px a i e')) s.mem,cA:=(o,0)::s.cA} true
     | _,_=>aG.bad
    | _,_=>aG.bad
   | _,_=>aG.bad
 | .append es bytes a b=>match ag aq s a,ag aq s b with
   |some x,some (.ll o lo hi)=>match bc s.mem o with
    |some (.row t y)=>aG.ct (lZ y lo hi) fun q=>KG s es bytes t x q k
    | _=>aG.bad
   |some x,some (.row o)=>match bc s.mem o with
    |some (.row t y)=>KG s es bytes t x y k
    | _=>aG.bad
   |some (.row o),some y=>match bc s.mem o with
    |some (.row t x)=>su s es bytes t x (some o) y k
    | _=>aG.bad
   |some x,some (.sl t y)=>match ss x with
    |some (.k .bX)=>su s es bytes t .nil none (.sl t y) k
    |some (.k .emp)=>su s es bytes t .emp none (.sl t y) k
    | _=>aG.bad
   | _,_=>aG.bad
 | .mkSlice es z bytes l c=>match d with
   |some (q,_)=>match bc cx.ty q,Qp l c,ag aq s l with
    |some t,true,some (.int _ n)=>match Nat.beq (J.es t) es,J.iJ t (aa4 z) []with
     |true,some e=>aG.ct (zO bytes e n) fun x=>k (.row s.aB) (kK s (.row t x)) true
     | _,_=>aG.bad
    | _,_,_=>aG.bad
   |none=>aG.bad
 | .mkMap=>match d with
   |some (q,_)=>match bc cx.ty q with
    |some c=>match J.mp c with
     |some p=>k (.row s.aB) (kK s (.mp p.1 p.2 [])) true
     |none=>aG.bad
    |none=>aG.bad
   |none=>aG.bad
 | .pQ kind x i y=>match ag aq s x,ag aq s i,ag aq s y with
   |some (.row o),some v,some w=>match bc s.mem o with
    |some (.mp eB j7 m)=>match J.iJ eB v s.aH,J.iJ j7 w s.aH,kindOf (J:=J) eB kind with
     |some x,some y,true=>k (.k .undef) {s with mem:=iX o (.mp eB j7 (apd eB j7 m x y)) s.mem,cA:=(o,0)::s.cA} true
     | _,_,_=>aG.bad
    | _=>aG.bad
   | _,_,_=>aG.bad
 | .call false f aQ=>match ag aq s f,wD aq s aQ with
   |some f,some aQ=>match KF aQ with
    |true=>match(match d with|some (q,_)=>bc cx.ty q|none=>none)with
     |some _=>Qo cx s f aQ fun v s=>k v s true
     |none=>Qn cx s f aQ fun v s=>k v s false
    |false=>KE cx s f aQ fun v s=>k v s false
   | _,_=>aG.bad
 | .call true f aQ=>match ag aq s f,wD aq s aQ with
   |some (.fn i []),some aQ=>match bc cx.q7 i with
    |some p=>aa5 s p aQ k
    |none=>aG.bad
   | _,_=>aG.bad
 | .lit es z len parts ju=>match Qs aq s len parts ju with
   |some (o,_)=>match d with
    |some (q,_)=>match bc cx.ty q,bc s.mem o with
     |some t,some (.row ej x)=>match J.iJ t (.sl ej x) s.aH,Nat.beq (J.es t) es with
      |some e,true=>k (.sl t (.mk [e])) {s with mem:=pF o s.mem,cA:=(o,0)::s.cA} true
      | _,_=>aG.bad
     | _,_=>aG.bad
    |none=>aG.bad
   |none=>Gg aq s (match d with|some (t,_)=>bc cx.ty t|none=>none) (fun v s=>k v s false) (.lit es z len parts ju)
 |op=>Gg aq s (match d with|some (t,_)=>bc cx.ty t|none=>none) (fun v s=>k v s false) op
def put (aq:kJ J)(s:bp J)(v:aL J.ax):Option (Nat × Bool)->(kJ J × bp J)
 |none=>(aq,s)
 |some (t,false)=>((t,v)::aq,s)
 |some (t,true)=>(aq,{s with vs:=(t,v)::s.vs,dE:=t::s.dE})
def so (cx:od J):List bI->kJ J->bp J->List Bool->(bp J->List Bool->A)->A
 |[],aq,s,wr,k=>k s wr.reverse
 |o::r,aq,s,wr,k=>
  let go:=fun s=>oper cx aq s o.dst (fun v s m=>match put aq s v o.dst with|(aq,s)=>so cx r aq s (m::wr) k) o.op;let skip:=fun s=>match put aq s (.aU []) o.dst with|(aq,s)=>so cx r aq s (false::wr) k
  match o.guard with
  |none=>go s
  |some (x,w)=>match ag aq s x with
   |none=>aG.bad
   |some v=>match v with
    | .aU []=>skip s
    |v=>match w with
     |true=>split s v go skip
     |false=>split s v skip go
def Qt (cx:od J)(aq:kJ J)(s:bp J)(d:Option (Nat × Bool))(k:aL J.ax->bp J->A):cN->A
 | .call false f aQ=>match ag aq s f,wD aq s aQ with
   |some f,some aQ=>KE cx s f aQ k
   | _,_=>aG.bad
 |op=>Gg aq s (match d with|some (t,_)=>bc cx.ty t|none=>none) k op
def wG (cx:od J):List bI->kJ J->bp J->(kJ J->bp J->A)->A
 |[],aq,s,k=>k aq s
 |o::r,aq,s,k=>
  let fin:=fun v s=>match put aq s v o.dst with|(aq,s)=>wG cx r aq s k
  let go:=fun s=>Qt cx aq s o.dst fin o.op
  match o.guard with
  |none=>go s
  |some (x,w)=>match ag aq s x with
   |none=>aG.bad
   |some v=>match v with
    | .aU []=>fin (.aU []) s
    |v=>match w with
     |true=>split s v go (fin (.aU []))
     |false=>split s v (fin (.aU [])) go
inductive Loc where
 |s (t:Nat)
 |m (o j:Nat)
inductive apg (J:iI) where
 |p (t:Nat)
 |c (v:aL J.ax)
 |r (t:Nat)
 |d
abbrev np (J:iI):=List (Loc × apg J)
def iY:np J->List Nat
 |[]=>[]
 |(_,.p t)::r=>t::iY r
 |(_,.c _)::r=>iY r
 |(_,.r t)::r=>t::iY r
 |(_,.d)::r=>iY r
def at_ (s:bp J):Loc->Option (aL J.ax)
 | .s t=>bc s.vs t
 | .m o j=>match bc s.mem o with
   |some (.cells _ cs)=>nth cs j
   | _=>none
mutual
def same:aL J.ax->aL J.ax->Bool
 | .cX a,.cX b=>match a,b with
   |true,true=>true
   |false,false=>true
   | _,_=>false
 | .bo i n,.bo j m=>match Nat.beq i j,n,m with
   |true,true,true=>true
   |true,false,false=>true
   | _,_,_=>false
 | .int k a,.int bz b=>match decide (k=bz)with
   |true=>decide (a=b)
   |false=>false
 | .k v,.k w=>dL v w
 | .ptr o f,.ptr o' me=>match Nat.beq o o' with
   |true=>Nat.beq f me
   |false=>false
 | .fv j,.fv vx=>Nat.beq j vx
 | .fn i cs,.fn Bn cs'=>match Nat.beq i Bn with
   |true=>Aj cs cs'
   |false=>false
 | .agg cs,.agg cs'=>Aj cs cs'
 | .str a,.str b=>decide (a=b)
 | _,_=>false
def Aj:List (aL J.ax)->List (aL J.ax)->Bool
 |[],[]=>true
 |a::r,b::s=>match same a b with
  |true=>Aj r s
  |false=>false
 | _,_=>false
end
mutual
def wf (n m:Nat):aL J.ax->Bool
 | .bo i _=>Nat.blt i n
 | .ptr o _=>Nat.blt o m
 | .row o=>Nat.blt o m
 | .jq o _ _=>Nat.blt o m
 | .ll o _ _=>Nat.blt o m
 | .agg vs=>Ak n m vs
 | .aU vs=>Ak n m vs
 | .dH vs _=>Ak n m vs
 | .fn _ cs=>Ak n m cs
 | _=>true
def Ak (n m:Nat):List (aL J.ax)->Bool
 |[]=>true
 |v::r=>match wf n m v with
  |true=>Ak n m r
  |false=>false
end
def q9 (o j:Nat):List (Nat × Nat)->Bool
 |[]=>false
 |(a,b)::r=>match Nat.beq a o,Nat.beq b j with
  |true,true=>true
  | _,_=>q9 o j r
def Qu (c eB j7:Nat)(x:List (J.ax eB × J.ax j7)):Option (J.ax c):=match h:J.mp c with
 |none=>none
 |some p=>if e:p=(eB,j7)then some ((J.aa1 c (eB,j7) (h.trans (congrArg some e))).symm ▸ x)else none
def KJ (c:Nat)(v:aL J.ax):Option (J.ax c):=match J.mp c with
 |some _=>none
 |none=>J.iJ c v []
def rowAt (c:Nat)(x:J.ax c):Option (b8 J):=match h:J.mp c with
 |some p=>some (.mp p.1 p.2 (J.aa1 c p h ▸ x))
 |none=>match J.gZ c x 0 with
  | .sl t y=>some (.row t y)
  | _=>none
def oS (n m:Nat)(M:List (Nat × Nat))(s:bp J)(u:List Nat):(sh:np J)->Option (ea J (iY sh))
 |[]=>some ()
 |(l,.p t)::r=>match at_ s l with
  |none=>none
  |some v=>match J.iJ t v s.aH with
   |none=>none
   |some x=>match oS n m M s u r with
    |none=>none
    |some y=>some (x0 (iY r) x y)
 |(l,.c v)::r=>match at_ s l with
  |none=>none
  |some w=>match same w v,wf n m v with
   |true,true=>oS n m M s u r
   | _,_=>none
 |(_,.d)::r=>oS n m M s u r
 |(l,.r c)::r=>match at_ s l with
  |none=>none
  |some v=>match v with
   | .row o=>match bc s.mem o,mem o u,(match Nat.ble m o with|true=>true|false=>q9 o 0 M)with
     |some (.row t x),false,true=>match KJ c (.sl t x)with
      |none=>none
      |some x=>match oS n m M s (o::u) r with
       |none=>none
       |some y=>some (x0 (iY r) x y)
     |some (.mp eB j7 x),false,true=>match Qu c eB j7 x with
      |none=>none
      |some x=>match oS n m M s (o::u) r with
       |none=>none
       |some y=>some (x0 (iY r) x y)
     | _,_,_=>none
   |v=>match ss v with
    |none=>none
    |some v=>match KJ c v with
     |none=>none
     |some x=>match oS n m M s u r with
      |none=>none
      |some y=>some (x0 (iY r) x y)
def kL (s:bp J)(l:Loc)(v:aL J.ax):bp J:=match l with
 | .s t=>{s with vs:=(t,v)::s.vs}
 | .m o j=>match bc s.mem o with
   |some (.cells w cs)=>{s with mem:=iX o (.cells w (cs.set j v)) s.mem}
   | _=>s
def ra:(sh:np J)->ea J (iY sh)->bp J->bp J
 |[],_,s=>s
 |(l,.p t)::r,x,s=>ra r (x1 (iY r) x) (kL {s with aH:=s.aH++J.xY t (pE (iY r) x)} l (J.gZ t (pE (iY r) x) s.aH.length))
 |(l,.c v)::r,x,s=>ra r x (kL s l v)
 |(_,.d)::r,x,s=>ra r x s
 |(l,.r c)::r,x,s=>ra r (x1 (iY r) x) (match rowAt c (pE (iY r) x)with
  |some aP=>kL (kK s aP) l (.row s.aB)
  |none=>s)
def il:np J->List (Nat × Nat)
 |[]=>[]
 |(.m o j,_)::r=>(o,j)::il r
 | _::r=>il r
def sv (o:Nat)(M:List (Nat × Nat)):Nat->List (aL J.ax)->List (aL J.ax)
 | _,[]=>[]
 |j,c::r=>(match q9 o j M with
  |true=>.ln
  |false=>c)::sv o M (j+1) r
def rb (M:List (Nat × Nat)):List (Nat × b8 J)->List (Nat × b8 J)
 |[]=>[]
 |(o,b)::r=>match b with
  | .cells w cs=>(o,.cells w (sv o M 0 cs))::rb M r
  |b=>match q9 o 0 M with
   |true=>rb M r
   |false=>(o,b)::rb M r
def blank (W:List Nat)(M:List (Nat × Nat))(s:bp J):bp J:={s with vs:=(W.map fun t=>(t,.ln))++s.vs,mem:=rb M s.mem}
def fO:np J->List Nat
 |[]=>[]
 |(.s t,_)::r=>t::fO r
 | _::r=>fO r
def enter (W:List Nat)(M:List (Nat × Nat))(sh:np J)(x:ea J (iY sh))(s:bp J):bp J:=
 {ra sh x (blank (fO sh++W) (M++il sh) s)with dK:=[],dE:=fO sh++(W++s.dE),cA:=M++(il sh++s.cA)}
def Gl (W:List Nat):List Nat->Bool
 |[]=>true
 |t::r=>match mem t W with
  |true=>Gl W r
  |false=>false
def Gm (n:Nat)(M:List (Nat × Nat)):List (Nat × Nat)->Bool
 |[]=>true
 |(o,c)::r=>match Nat.ble n o with
  |true=>Gm n M r
  |false=>match q9 o c M with
   |true=>Gm n M r
   |false=>false
def CV (n m:Nat)(W:List Nat)(M:List (Nat × Nat))(sh:np J)(s:bp J):Option (ea J (iY sh)):=match Gl W s.dE with
 |false=>none
 |true=>match Gm m (M++il sh) s.cA with
  |true=>oS n m (M++il sh) s [] sh
  |false=>none
abbrev x3 (J:iI):=List (X × np J)
def Al:x3 J->List (List Nat)
 |[]=>[]
 |(_,sh)::r=>iY sh::Al r
def KK:X->X->Bool
 | .normal,.normal=>true
 | .ret,.ret=>true
 | .exit i,.exit j=>Nat.beq i j
 | _,_=>false
def Am (n m:Nat)(W:List Nat)(M:List (Nat × Nat))(x:X)(s:bp J):(os:x3 J)->Option (Ah J (Al os))
 |[]=>none
 |(fJ,sh)::r=>match r with
  |[]=>match KK x fJ with
   |true=>CV n m W M sh s
   |false=>none
  |q::r=>match KK x fJ with
   |true=>match CV n m W M sh s with
    |some y=>some (cz.go y)
    |none=>none
   |false=>match Am n m W M x s (q::r)with
    |some y=>some (cz.ret y)
    |none=>none
def leave (W:List Nat)(M:List (Nat × Nat))(s:bp J)(k:X->bp J->A):(os:x3 J)->Ah J (Al os)->A
 |[],_=>aG.bad
 |(x,sh)::r,o=>match r,o with
  |[],o=>k x (enter W M sh o s)
  |q::r,o=>match o with
   | .go y=>k x (enter W M sh y s)
   | .ret y=>leave W M s k (q::r) y
inductive kM (J:iI) where
 |o
 |lt
 |md (n:Nat)
 |two (a b:kM J)
 |pc (os:x3 J) (a b:kM J)
 |pu (sl:List Nat) (b:kM J)
 |eE (hd:np J) (os:x3 J) (a:kM J)
 |pl (a b:kM J)
def kM.l:kM J->kM J
 | .two a _=>a
 | _=>.o
def kM.r:kM J->kM J
 | .two _ b=>b
 | _=>.o
def pG:List bI->List Nat
 |[]=>[]
 |o::r=>match o.dst with
  |some (t,true)=>t::pG r
  | _=>pG r
def aph (t:Nat)(l:List Nat):List Nat:=match mem t l with
 |true=>l
 |false=>t::l
def KL:List Nat->List Nat->List Nat
 |[],l=>l
 |t::r,l=>KL r (aph t l)
def km:cm->List Nat
 | .region ops _=>KL (pG ops) []
 | .yM ops _ _=>pG ops
 | .seq a b=>KL (km a) (km b)
 | .cond _ a b=>KL (km a) (km b)
 | .block _ a=>km a
 | .loop a=>km a
 | _=>[]
inductive wH where
 |lit (b:Bool)
 |nm (i:Nat) (neg:Bool) (b:Bool)
 |tm (b:Bool)
def wH.val:wH->Bool
 | .lit b=>b
 | .nm _ _ b=>b
 | .tm b=>b
def Gn (c:Bool)(x y:wH):wH:=match x,y with
 | .nm i n a,.nm j m b=>match Nat.beq i j,n,m with
   |true,true,true=>.nm i n (bif c then a else b)
   |true,false,false=>.nm i n (bif c then a else b)
   | _,_,_=>.tm (bif c then a else b)
 | .lit true,.lit true=>.lit true
 | .lit false,.lit false=>.lit false
 | .lit true,.lit false=>.tm c
 |x,.lit false=>.tm (c&&x.val)
 | .lit true,y=>.tm (c||y.val)
 |x,y=>.tm (bif c then x.val else y.val)
inductive aa7 (J:iI) where
 |v (v:aL J.ax)
 |b (b:wH)
 |bad
def mx (l:Loc):pD (bp J)->aa7 J
 | .bad=>.bad
 | .leaf s=>match at_ s l with
   |none=>.bad
   |some v=>match v with
    | .cX b=>.b (.lit b)
    | .bo i n=>match xZ s (.bo i n)with
      |some b=>.b (.nm i n b)
      |none=>.bad
    |v=>.v v
 | .br _ c t e=>match mx l t,mx l e with
   | .b x,.b y=>.b (Gn c x y)
   | .v (.int k a),.v (.int bz b)=>match decide (k=bz)with
     |true=>.v (.int k (bif c then a else b))
     |false=>.bad
   | .v (.str a),.v (.str b)=>.v (.str (bif c then a else b))
   | .v v,.v w=>match same v w with
     |true=>.v w
     |false=>.bad
   | _,_=>.bad
def uJ (n m:Nat)(p:pD (bp J)):List Nat->bp J->(bp J->A)->A
 |[],s,k=>k s
 |t::r,s,k=>match mx (.s t) p with
  | .v v=>match wf n m v with
    |true=>uJ n m p r {s with vs:=(t,v)::s.vs} k
    |false=>aG.bad
  | .b x=>match x with
    | .lit b=>uJ n m p r {s with vs:=(t,.cX b)::s.vs} k
    | .nm i neg b=>match Nat.blt i n with
      |true=>uJ n m p r {s with vs:=(t,.bo i neg)::s.vs} k
      |false=>uJ n m p r {s with vs:=(t,.bo s.aH.length false)::s.vs,aH:=s.aH++[b]} k
    | .tm b=>uJ n m p r {s with vs:=(t,.bo s.aH.length false)::s.vs,aH:=s.aH++[b]} k
  | .bad=>aG.bad
def CW (W:List Nat):pD (bp J)->Bool
 | .bad=>false
 | .leaf s=>match Gl W s.dE,s.cA with
   |true,[]=>true
   | _,_=>false
 | .br _ _ t e=>match CW W t with
   |true=>CW W e
   |false=>false
def fresh (s:bp J):bp J:={s with dK:=[],dE:=[],cA:=[]}
def KM (er:Option (List Nat))(ops:List bI)(wr:List Bool)(a:A):A:=match er with
 |none=>a
 |some er=>match rH er ops wr with
  |true=>a
  |false=>aG.bad
def KN (n:Nat):List (Nat × b8 J)->Bool
 |[]=>true
 |e::r=>match Nat.ble n e.1 with
  |true=>KN n r
  |false=>false
def Qv (er:List Nat)(ops:List bI)(wr:List Bool)(n:Nat)(m:List (Nat × b8 J))(a:A):A:=match xi er ops wr,KN n m with
 |true,true=>a
 | _,_=>aG.bad
def wI (cx:od J):List bI->kJ J->bp J->List (Nat × b8 J)->List Bool->(kJ J->bp J->List (Nat × b8 J)->List Bool->A)->A
 |[],aq,s,p,w,k=>k aq s p w
 |o::r,aq,s,p,w,k=>match o with
  |⟨d,.call true f aQ,none⟩=>match ag aq s f,wD aq s aQ with
   |some (.fn i []),some [v]=>match bc cx.q7 i with
    |some q=>match ev q.1 v,Nat.blt 1 q.2 with
     |some x,true=>aG.ct (xO q.2 x) fun z=>match put aq {s with aB:=s.aB+1} (.row s.aB) d with
      |(aq,s1)=>wI cx r aq s1 ((s.aB,.row q.1 z)::p) (w++[true]) k
     | _,_=>aG.bad
    |none=>aG.bad
   | _,_=>aG.bad
  |⟨d,.append es bytes a b,none⟩=>match ag aq s a,ag aq s b with
   |some x,some (.ll o lo hi)=>match bc s.mem o,ss x with
    |some (.row t y),some (.k .emp)=>match Nat.beq (J.es t) es with
     |true=>aG.ct (lZ y lo hi) fun q=>aG.ct (gn bytes .emp q) fun z=>match put aq {s with aB:=s.aB+1} (.row s.aB) d with
      |(aq,s1)=>wI cx r aq s1 ((s.aB,.row t z)::p) (w++[true]) k
     |false=>aG.bad
    | _,_=>aG.bad
   |some (.row o),some y=>match bc p o with
    |some (.row t x)=>match Nat.beq (J.es t) es,ev t y with
     |true,some y=>aG.ct (gn bytes x y) fun z=>match put aq {s with aB:=s.aB+1} (.row s.aB) d with
      |(aq,s1)=>wI cx r aq s1 (j8 o s.aB (.row t z) p) (w++[true]) k
     | _,_=>aG.bad
    | _=>aG.bad
   |some x,some (.sl t y)=>match Nat.beq (J.es t) es,ss x with
    |true,some (.k .emp)=>aG.ct (gn bytes .emp y) fun z=>match put aq {s with aB:=s.aB+1} (.row s.aB) d with
     |(aq,s1)=>wI cx r aq s1 ((s.aB,.row t z)::p) (w++[true]) k
    | _,_=>aG.bad
   | _,_=>aG.bad
  |o=>wG cx [o] aq s fun aq s=>wI cx r aq s p (w++[false]) k
def aa8 (cx:od J)(er:List Nat)(ops:List bI)(n:Nat)(s:bp J)(k:bp J->A):A:=
 wI cx (ops.take n) [] s [] [] fun aq s p w=>so cx (ops.drop n) aq {s with mem:=p++s.mem} w.reverse fun ao wr=>match CS er ops w wr with
  |true=>k ao
  |false=>aG.bad
def aa9 (W:List Nat)(s:bp J)(sl:List Nat)(p:pD (bp J))(k:bp J->A):A:=match CW W p with
 |true=>uJ s.aH.length s.aB p sl {blank W [] s with dE:=sl++(W++s.dE)} k
 |false=>aG.bad
noncomputable def KO (f:kM J->{A:Type}->[aG A]->bp J->(X->bp J->A)->A)(W:List Nat)(hd:np J)(os:x3 J)(x:kM J)(s:bp J)(k:X->bp J->A):A:=match oS s.aH.length s.aB (il hd) s [] hd with
 |none=>aG.bad
 |some uK=>aG.ct (bZ (fun st=>f x (A:=Option (cU (ea J (iY hd)) (Ah J (Al os)))) (fresh (enter W [] hd st s)) fun x ao=>match x with
   | .normal=>match CV s.aH.length s.aB W [] hd ao with
     |some y=>some (.next y)
     |none=>none
   |x=>match Am s.aH.length s.aB (fO hd++W) (il hd) x ao os with
    |some y=>some (.out y)
    |none=>none) uK) fun o=>
  leave (fO hd++W) (il hd) s k os o
noncomputable def kN (cx:od J):cm->kM J->{A:Type}->[aG A]->bp J->(X->bp J->A)->A
 | .skip,_,_,_,s,k=>k .normal s
 | .ret,_,_,_,s,k=>k .ret s
 | .exit i,_,_,_,s,k=>k (.exit i) s
 | .region ops er,an,_,_,s,k=>match an,er with
   | .lt,some er=>wG cx (ops.take (kV ops)) [] s fun aq s=>so cx (ops.drop (kV ops)) aq {s with mem:=[]} (List.replicate (kV ops) false) fun ao wr=>Qv er ops wr s.aB ao.mem (k .normal {ao with mem:=ao.mem++s.mem})
   | .md n,some er=>aa8 cx er ops n s fun s=>k .normal s
   | _,er=>so cx ops [] s [] fun s wr=>KM er ops wr (k .normal s)
 | .seq a b,an,_,_,s,k=>match an with
   | .pc os x y=>aG.ct (kN cx a x (A:=Option (Ah J (Al os))) (fresh s) fun x ao=>Am s.aH.length s.aB (km a) [] x ao os) fun o=>
     leave (km a) [] s (fun x ao=>match x with
      | .normal=>kN cx b y ao k
      |x=>k x ao) os o
   | .pu sl y=>match a with
     | .region ops er=>aa9 (pG ops) s sl (so cx ops [] {s with dE:=[],cA:=[]} [] fun s wr=>KM er ops wr (pD.leaf s)) fun ao=>kN cx b y ao k
     | _=>aG.bad
   |an=>kN cx a an.l s fun x s=>match x with
    | .normal=>kN cx b an.r s k
    |x=>k x s
 | .cond c a b,an,_,_,s,k=>match ag [] s c with
   |none=>aG.bad
   |some v=>split s v (fun s=>kN cx a an.l s k) (fun s=>kN cx b an.r s k)
 | .block id a,an,_,_,s,k=>kN cx a an s fun x s=>k (Cn id x) s
 | .loop a,an,_,_,s,k=>match an with
   | .eE hd os x=>KO (fun an {_:Type} [aG _] s k=>kN cx a an s k) (km a) hd os x s k
   | .pl x (.eE hd os y)=>kN cx a x s fun e ao=>match e with
     | .normal=>KO (fun an {_:Type} [aG _] s k=>kN cx a an s k) (km a) hd os y ao k
     |e=>k e ao
   | _=>aG.bad
 | _,_,_,_,_,_=>aG.bad
def An:(aQ:List l5)->oR J aQ->Nat->bp J->List (Gh J)->bp J × List (Gh J)
 |[],_,_,s,f=>(s,f)
 | .v t::r,x,j,s,f=>An r x.2 (j+1) {s with vs:=(j,J.gZ t x.1 s.aH.length)::s.vs,aH:=s.aH++J.xY t x.1} f
 | .f dN rt::r,x,j,s,f=>An r x.2 (j+1) {s with vs:=(j,.fv f.length)::s.vs} (f++[⟨dN,rt,x.1⟩])
def KP:(cs:List Nat)->ea J cs->Nat->bp J->Option (bp J)
 |[],_,_,s=>some s
 |t::r,x,j,s=>match sr (J.gZ t (pE r x) s.aH.length)with
  |none=>none
  |some cs=>KP r (x1 r x) (j+1) {s with vs:=(j,.ptr s.aB 0)::s.vs,mem:=s.mem++[(s.aB,.cells false cs)],aB:=s.aB+1,aH:=s.aH++J.xY t (pE r x)}
def Gp (s:bp J):List mR->Option (List (aL J.ax))
 |[]=>some []
 |r::rs=>match(match r with
   | .tmp t=>bc s.vs t
   | .cell a sh=>match bc s.vs a with
     |some (.ptr o f)=>match bc s.mem o with
      |some (.cells _ cs)=>cut cs f sh
      | _=>none
     | _=>none)with
  |none=>none
  |some v=>match Gp s rs with
   |none=>none
   |some l=>some (v::l)
def Qw (s:bp J)(res:List Nat)(vs:List (aL J.ax)):Option (ea J res):=match vs with
 |[v]=>match l0 16 s.mem v with
  |some (v,_)=>q8 s.aH res [v]
  |none=>none
 |vs=>match uI (l0 15) s.mem vs with
  |some (vs,_)=>q8 s.aH res vs
  |none=>none
def uK:bp J:=⟨[],[],0,[],[],[],[]⟩
noncomputable def KQ (T:List (cq J))(ty:List (Nat × Nat))(q7:List (Nat × Nat × Nat))(f:jv)(an:kM J)(caps:List Nat)(args:List l5)(res:List Nat)(c:ea J caps)(a:oR J args):Option (ea J res):=
 match An args a 0 uK []with
 |(s,fv)=>match KP caps c args.length s with
  |none=>none
  |some s=>kN ⟨T,fv,ty,q7⟩ f.body an s fun x s=>match x with
   | .exit _=>none
   | _=>match Gp s f.results with
     |some vs=>Qw s res vs
     |none=>none
def h7{ax:Nat->Type}(k:IntKind):aL ax->Option Int
 | .int bz n=>match decide (bz=k)with
   |true=>some n
   |false=>none
 | _=>none
def KR{ax:Nat->Type}(B:List Bool):aL ax->Option Bool
 | .cX b=>some b
 | .bo i neg=>match nth B i with
   |some c=>match neg with
    |false=>some c
    |true=>some (!c)
   |none=>none
 | _=>none
def Gq{ax:Nat->Type}:aL ax->Option cf
 | .str s=>some s
 | _=>none
def oT{ax:Nat->Type}{R:Type}(f:List (aL ax)->Option R):aL ax->Option R
 | .agg vs=>f vs
 | _=>none
end
end Go.Abs.hq
namespace Go.Abs.bs
open Go Go.Abs Go.Abs.hq
def sw:Nat->Type
 |0=>Int
 |1=>Bool
 |2=>cf
 |3=>Int
 |4=>gi
 |5=>(ad gi)
 |6=>(ad Int)
 |7=>Range
 |8=>Table
 |9=>(ad Bool)
 |10=>(ad Table)
 |11=>(ad cf)
 |12=>(ad Range)
 |13=>Term
 |14=>(ad Term)
 |15=>Row
 |16=>Constraint
 |17=>(ad Constraint)
 |18=>et
 |19=>(ad et)
 |20=>Change
 |21=>(ad Change)
 |22=>(ad Row)
 |23=>mD
 |24=>(ad mD)
 |25=>eJ
 |26=>Action
 |27=>(ad Action)
 |28=>Model
 |29=>dR
 |30=>Token
 |31=>(ad Token)
 |32=>(ad (ad Int))
 |33=>(ad (ad Change))
 |100=>List (cf × Bool)
 | _=>Unit
def api:Nat->Nat
 |4=>3
 |7=>2
 |8=>6
 |13=>2
 |15=>2
 |16=>6
 |18=>3
 |20=>2
 |23=>3
 |25=>3
 |26=>5
 |28=>7
 |29=>8
 |30=>4
 | _=>1
def aba:(t:Nat)->sw t->V
 |0,x=>aI x
 |1,x=>V.bool x
 |2,x=>V.str x
 |3,x=>(V.int .u8) x
 |4,x=>jn x
 |5,x=>(bb 3 jn) x
 |6,x=>(bb 1 aI) x
 |7,x=>q3 x
 |8,x=>lJ x
 |9,x=>(bb 1 V.bool) x
 |10,x=>(bb 6 lJ) x
 |11,x=>(bb 1 V.str) x
 |12,x=>(bb 2 q3) x
 |13,x=>oN x
 |14,x=>(bb 2 oN) x
 |15,x=>ux x
 |16,x=>sf x
 |17,x=>(bb 6 sf) x
 |18,x=>sg x
 |19,x=>(bb 3 sg) x
 |20,x=>nj x
 |21,x=>(bb 2 nj) x
 |22,x=>(bb 2 ux) x
 |23,x=>uy x
 |24,x=>(bb 3 uy) x
 |25,x=>Ct x
 |26,x=>si x
 |27,x=>(bb 5 si) x
 |28,x=>wm x
 |29,x=>Fh x
 |30,x=>Cu x
 |31,x=>(bb 4 Cu) x
 |32,x=>(bb 1 (bb 1 aI)) x
 |33,x=>(bb 1 (bb 2 nj)) x
 | _,_=>.bX
def apj:(t:Nat)->sw t->Nat->aL sw
 |0,x,n=>.int .i64 x
 |1,x,n=>.bo n false
 |2,x,n=>.str x
 |3,x,n=>.int .u8 x
 |4,x,n=>.agg [.int .i64 x.Table,.int .i64 x.iF,.int .i64 x.c5]
 |5,x,n=>.sl 4 x
 |6,x,n=>.sl 0 x
 |7,x,n=>.agg [.int .i64 x.lb,.int .i64 x.lf]
 |8,x,n=>.agg [.str x.Name,.int .i64 x.Kind,.sl 0 x.bR,.int .i64 x.Range.lb,.int .i64 x.Range.lf,.int .i64 x.dc]
 |9,x,n=>.sl 1 x
 |10,x,n=>.sl 8 x
 |11,x,n=>.sl 2 x
 |12,x,n=>.sl 7 x
 |13,x,n=>.agg [.int .i64 x.Cell,.int .i64 x.dA]
 |14,x,n=>.sl 13 x
 |15,x,n=>.agg [.sl 13 x.cC,.int .i64 x.ni]
 |16,x,n=>.agg [.int .i64 x.Kind,.int .i64 x.zS,.sl 13 x.Row.cC,.int .i64 x.Row.ni,.int .i64 x.dc,.int .i64 x.fL]
 |17,x,n=>.sl 16 x
 |18,x,n=>.agg [.str x.Name,.bo n false,.sl 0 x.bE]
 |19,x,n=>.sl 18 x
 |20,x,n=>.agg [.int .i64 x.Cell,.int .i64 x.Add]
 |21,x,n=>.sl 20 x
 |22,x,n=>.sl 15 x
 |23,x,n=>.agg [.int .i64 x.Kind,.int .i64 x.Cell,.int .i64 x.Value]
 |24,x,n=>.sl 23 x
 |25,x,n=>.agg [.sl 20 x.Delta,.sl 15 x.h4,.sl 23 x.ik]
 |26,x,n=>.agg [.int .i64 x.et,.sl 0 x.gE,.sl 20 x.eJ.Delta,.sl 15 x.eJ.h4,.sl 23 x.eJ.ik]
 |27,x,n=>.sl 26 x
 |28,x,n=>.agg [.sl 0 x.bE,.sl 8 x.Tables,.sl 2 x.fR,.sl 16 x.dO,.sl 18 x.Operations,.sl 26 x.Actions,.sl 4 x.b9]
 |29,x,n=>.agg [.sl 0 x.Model.bE,.sl 8 x.Model.Tables,.sl 2 x.Model.fR,.sl 16 x.Model.dO,.sl 18 x.Model.Operations,.sl 26 x.Model.Actions,.sl 4 x.Model.b9,.sl 7 x.strict]
 |30,x,n=>.agg [.int .i64 x.Kind,.int .i64 x.aam,.int .i64 x.At,.int .i64 x.End]
 |31,x,n=>.sl 30 x
 |32,x,n=>.sl 6 x
 |33,x,n=>.sl 21 x
 | _,_,_=>.k .bX
def apk:(t:Nat)->sw t->List Bool
 |1,x=>[x]
 |18,x=>[x.Ordered]
 | _,_=>[]
def apl:(t:Nat)->aL sw->List Bool->Option (sw t)
 |0,v,B=>h7 .i64 v
 |1,v,B=>KR B v
 |2,v,B=>Gq v
 |3,v,B=>h7 .u8 v
 |4,v,B=>oT (fun vs=>match vs with
  |[fj,dj,eG]=>(h7 .i64 fj).bind fun cZ=>(h7 .i64 dj).bind fun b0=>(h7 .i64 eG).bind fun dy=>some ⟨cZ,b0,dy⟩
  | _=>none) v
 |5,v,B=>ev 4 v
 |6,v,B=>ev 0 v
 |7,v,B=>oT (fun vs=>match vs with
  |[fj,dj]=>(h7 .i64 fj).bind fun cZ=>(h7 .i64 dj).bind fun b0=>some ⟨cZ,b0⟩
  | _=>none) v
 |8,v,B=>oT (fun vs=>match vs with
  |[fj,dj,eG,e3,hO,hX]=>(Gq fj).bind fun cZ=>(h7 .i64 dj).bind fun b0=>(ev 0 eG).bind fun dy=>(h7 .i64 e3).bind fun gA=>(h7 .i64 hO).bind fun lh=>(h7 .i64 hX).bind fun fZ=>some ⟨cZ,b0,dy,⟨gA,lh⟩,fZ⟩
  | _=>none) v
 |9,v,B=>ev 1 v
 |10,v,B=>ev 8 v
 |11,v,B=>ev 2 v
 |12,v,B=>ev 7 v
 |13,v,B=>oT (fun vs=>match vs with
  |[fj,dj]=>(h7 .i64 fj).bind fun cZ=>(h7 .i64 dj).bind fun b0=>some ⟨cZ,b0⟩
  | _=>none) v
 |14,v,B=>ev 13 v
 |15,v,B=>oT (fun vs=>match vs with
  |[fj,dj]=>(ev 13 fj).bind fun cZ=>(h7 .i64 dj).bind fun b0=>some ⟨cZ,b0⟩
  | _=>none) v
 |16,v,B=>oT (fun vs=>match vs with
  |[fj,dj,eG,e3,hO,hX]=>(h7 .i64 fj).bind fun cZ=>(h7 .i64 dj).bind fun b0=>(ev 13 eG).bind fun dy=>(h7 .i64 e3).bind fun gA=>(h7 .i64 hO).bind fun lh=>(h7 .i64 hX).bind fun fZ=>some ⟨cZ,b0,⟨dy,gA⟩,lh,fZ⟩
  | _=>none) v
 |17,v,B=>ev 16 v
 |18,v,B=>oT (fun vs=>match vs with
  |[fj,dj,eG]=>(Gq fj).bind fun cZ=>(KR B dj).bind fun b0=>(ev 0 eG).bind fun dy=>some ⟨cZ,b0,dy⟩
  | _=>none) v
 |19,v,B=>ev 18 v
 |20,v,B=>oT (fun vs=>match vs with
  |[fj,dj]=>(h7 .i64 fj).bind fun cZ=>(h7 .i64 dj).bind fun b0=>some ⟨cZ,b0⟩
  | _=>none) v
 |21,v,B=>ev 20 v
 |22,v,B=>ev 15 v
 |23,v,B=>oT (fun vs=>match vs with
  |[fj,dj,eG]=>(h7 .i64 fj).bind fun cZ=>(h7 .i64 dj).bind fun b0=>(h7 .i64 eG).bind fun dy=>some ⟨cZ,b0,dy⟩
  | _=>none) v
 |24,v,B=>ev 23 v
 |25,v,B=>oT (fun vs=>match vs with
  |[fj,dj,eG]=>(ev 20 fj).bind fun cZ=>(ev 15 dj).bind fun b0=>(ev 23 eG).bind fun dy=>some ⟨cZ,b0,dy⟩
  | _=>none) v
 |26,v,B=>oT (fun vs=>match vs with
  |[fj,dj,eG,e3,hO]=>(h7 .i64 fj).bind fun cZ=>(ev 0 dj).bind fun b0=>(ev 20 eG).bind fun dy=>(ev 15 e3).bind fun gA=>(ev 23 hO).bind fun lh=>some ⟨cZ,b0,⟨dy,gA,lh⟩⟩
  | _=>none) v
 |27,v,B=>ev 26 v
 |28,v,B=>oT (fun vs=>match vs with
  |[fj,dj,eG,e3,hO,hX,Gr]=>(ev 0 fj).bind fun cZ=>(ev 8 dj).bind fun b0=>(ev 2 eG).bind fun dy=>(ev 16 e3).bind fun gA=>(ev 18 hO).bind fun lh=>(ev 26 hX).bind fun fZ=>(ev 4 Gr).bind fun pB=>some ⟨cZ,b0,dy,gA,lh,fZ,pB⟩
  | _=>none) v
 |29,v,B=>oT (fun vs=>match vs with
  |[fj,dj,eG,e3,hO,hX,Gr,apm]=>(ev 0 fj).bind fun cZ=>(ev 8 dj).bind fun b0=>(ev 2 eG).bind fun dy=>(ev 16 e3).bind fun gA=>(ev 18 hO).bind fun lh=>(ev 26 hX).bind fun fZ=>(ev 4 Gr).bind fun pB=>(ev 7 apm).bind fun uC=>some ⟨⟨cZ,b0,dy,gA,lh,fZ,pB⟩,uC⟩
  | _=>none) v
 |30,v,B=>oT (fun vs=>match vs with
  |[fj,dj,eG,e3]=>(h7 .i64 fj).bind fun cZ=>(h7 .i64 dj).bind fun b0=>(h7 .i64 eG).bind fun dy=>(h7 .i64 e3).bind fun gA=>some ⟨cZ,b0,dy,gA⟩
  | _=>none) v
 |31,v,B=>ev 30 v
 |32,v,B=>ev 6 v
 |33,v,B=>ev 21 v
 | _,_,_=>none
def apn (t:Nat):Bool:=match t with
 |0=>true
 |1=>true
 |2=>true
 |3=>true
 | _=>false
def Qx:Nat->Option Nat
 |0=>some 0
 |2=>some 1
 | _=>none
def apo:(t:Nat)->sw t->sw t->Bool
 |0,a,c=>@BEq.beq Int _ a c
 |2,a,c=>@BEq.beq cf _ a c
 | _,_,_=>false
def Qy:Nat->Option (Nat × Nat)
 |100=>some (2,1)
 | _=>none
theorem apq (c:Nat)(p:Nat × Nat)(h:Qy c=some p):sw c=List (sw p.1 × sw p.2):=by
 unfold Qy at h;split at h<;>cases h<;>rfl
abbrev bt:iI:=⟨sw,api,aba,apj,apk,apl,apn,Qx,apo,Qy,apq⟩
end Go.Abs.bs
namespace Go.Abs.hq
open Go Go.Abs
structure l6 {A:Type} [aG A] (S:A->Prop):Prop where
 bad:¬S aG.bad
 br:∀{i:Nat} {c:Bool} {x y:A},S (aG.br i c x y)->(c=true/\S x)\/(c=false/\S y)
 ct:∀{α:Type} {o:Option α} {f:α->A},S (aG.ct o f)->∃x,o=some x/\S (f x)
theorem Qz{R:Type}(r:R):l6 (A:=Option R) (fun a=>a=some r) where
 bad:=fun h=>by cases h
 br:=fun h=>qX h
 ct:=fun h=>bind_some h
def pD.val{R:Type}:pD R->Option R
 | .leaf a=>some a
 | .br _ c t e=>bif c then t.val else e.val
 | .bad=>none
theorem apr{R:Type}(r:R):l6 (A:=pD R) (fun a=>a.val=some r) where
 bad:=fun h=>by cases h
 br:=fun h=>qX h
 ct:=fun h=>by cases h
section
variable{J:iI}
def pH (J:iI)(b:Nat)(B:List Bool)(ρ fs:List V)(o:Nat)(m:List (Nat × bU)):b8 J->Prop
 | .cells w cs=>∃a ws,ρ[o]? =some (.ptr a 0)/\m=[(a,.cells ws)]/\bu J B ρ fs cs ws/\(w=true->b<=a)
 | .row t s=>∃v,ρ[o]? =some v/\ft b (J.es t) (J.enc t) v s m
 | .fz t s=>∃v m0,ρ[o]? =some v/\ft b (J.es t) (J.enc t) v s m0/\(m=m0\/m=Go.Abs.l0 m0)
 | .mp k w x=>∃a,ρ[o]? =some (.map a)/\m=[(a,.map (gC (J.enc k) (J.enc w) x))]/\b<=a
def dn (s:bp J)(G:Nat->List (Nat × bU))(F:cy):cy:=s.mem.map (fun e=>G e.1)++F
structure bW (J:iI) (b:Nat) (F:cy) (fs:List V) (s:bp J) (σ:bN) (H:Heap) (G:Nat->List (Nat × bU)) (ρ:List V):Prop where
 aB:ρ.length=s.aB
 vs:∀t v,bc s.vs t=some v->bS J s.aH ρ fs v (σ t)
 own:Own H (dn s G F)
 db:(s.mem.map Prod.fst).Nodup
 lt:∀e∈s.mem,e.1<s.aB
 mem:∀o aP,bc s.mem o=some aP->pH J b s.aH ρ fs o (G o) aP
 dK:∀i β,bc s.dK i=some β->s.aH[i]? =some β
structure jI (s ao:bp J):Prop where
 vs:ao.vs=s.vs
 mem:ao.mem=s.mem
 aB:ao.aB=s.aB
 dE:ao.dE=s.dE
 cA:ao.cA=s.cA
 aH:s.aH <+: ao.aH
 dK:(∀i β,bc s.dK i=some β->s.aH[i]? =some β)->∀i β,bc ao.dK i=some β->ao.aH[i]? =some β
theorem jI.rfl{s:bp J}:jI s s:=⟨Eq.refl _,Eq.refl _,Eq.refl _,Eq.refl _,Eq.refl _,dS,fun h=>h⟩
theorem jI.trans{s ao Gs:bp J}(h:jI s ao)(k:jI ao Gs):jI s Gs:=
 ⟨k.vs.trans h.vs,k.mem.trans h.mem,k.aB.trans h.aB,k.dE.trans h.dE,k.cA.trans h.cA,h.aH.trans k.aH,fun q=>k.dK (h.dK q)⟩
variable{b:Nat}{F:cy}{fs:List V}{s ao:bp J}{σ aW:bN}{H:Heap}{G:Nat->List (Nat × bU)}{ρ:List V}{aq:kJ J}{call:cP}
theorem pH.mono{B tw:List Bool}{cH:List V}(cQ:B <+: tw)(aN:ρ <+: cH){o:Nat}{m:List (Nat × bU)}:∀{aP:b8 J},pH J b B ρ fs o m aP->pH J b tw cH fs o m aP
 | .cells w cs,⟨a,ws,h1,h2,ar,aR⟩=>⟨a,ws,lK aN h1,h2,ar.mono cQ aN,aR⟩
 | .row t s,⟨v,h1,h2⟩=>⟨v,lK aN h1,h2⟩
 | .fz t s,⟨v,m0,h1,h2⟩=>⟨v,m0,lK aN h1,h2⟩
 | .mp k w x,⟨a,h1,h2⟩=>⟨a,lK aN h1,h2⟩
theorem bW.ek (R:bW J b F fs s σ H G ρ)(k:jI s ao):bW J b F fs ao σ H G ρ where
 aB:=by rw[k.aB];exact R.aB
 vs:=fun t v h=>by rw[k.vs]at h;exact(R.vs t v h).mono k.aH dS
 own:=by have:=R.own;unfold dn at this⊢; rw[k.mem];exact this
 db:=by rw[k.mem];exact R.db
 lt:=by rw[k.mem,k.aB];exact R.lt
 mem:=fun o aP h=>by rw[k.mem]at h;exact(R.mem o aP h).mono k.aH dS
 dK:=k.dK R.dK
theorem jr{α:Type}{l:List (Nat × α)}{t:Nat}{a:α}(h:bc l t=some a):(t,a)∈l:=by
 induction l with
 |nil=>cases h
 |cons p l ih=>
  obtain⟨k,c⟩:=p;rw[fT]at h;split at h
  ·rename_i e;cases h;subst e;simp
  ·exact kQ _ (ih h)
theorem bW.at (R:bW J b F fs s σ H G ρ){o:Nat}{aP:b8 J}(h:bc s.mem o=some aP):∃k,(dn s G F)[k]? =some (G o)/\k<s.mem.length/\∃hk:k<s.mem.length,s.mem[k].1=o:=by
 obtain⟨k,hk,e⟩:=List.mem_iff_getElem.1 (jr h);refine⟨k,?_,hk,hk,by rw[e]⟩;unfold dn;rw[fB (by simpa using hk),h8,gq hk,e];rfl
theorem bW.cells (R:bW J b F fs s σ H G ρ){o:Nat}{w:Bool}{cs:List (aL J.ax)}(h:bc s.mem o=some (.cells w cs)):
  ∃a ws,ρ[o]? =some (.ptr a 0)/\G o=[(a,.cells ws)]/\(∀H',Own H' (dn s G F)->H'[a]? =some (.cells ws))/\bu J s.aH ρ fs cs ws/\(w=true->b<=a):=by
 obtain⟨a,ws,h1,h2,ar,aR⟩:=R.mem o _ h;obtain⟨k,hk,-⟩:=R.at h;exact⟨a,ws,h1,h2,fun H' aw=>aw.get k (by rw[hk,h2]),ar,aR⟩
mutual
theorem KS{B:List Bool}:∀v:V,bS J B ρ fs (Gd v) v
 | .bool _=>.cX
 | .int _ _=>.int
 | .str _=>.str
 | .agg vs=>.agg (Gt vs)
 | .bX| .emp| .list _ _| .aU _| .jd| .ptr _ _| .gW .. | .dH _ _| .ca .. | .jt| .map _| .kt| .fn _ _ _| .yield _| .jQ| .iface _ _| .undef=>.k
theorem Gt{B:List Bool}:∀vs:List V,bu J B ρ fs (CU vs) vs
 |[]=>.nil
 |v::r=>.cons (KS v) (Gt r)
end
theorem Ao{B:List Bool}{v:aL J.ax}{w:V}{cs:List (aL J.ax)}(h:sr v=some cs)(af:bS J B ρ fs v w):bu J B ρ fs cs (aE w):=by
 cases af<;>simp only[sr]at h
 case agg h'=>cases h;exact h'
 case aU=>cases h
 case row=>cases h
 case jq=>cases h
 case ll=>cases h
 case fv=>cases h
 case ln=>cases h
 case k=>
  split at h
  ·cases h
  ·cases h
   cases w<;>first|exact .cons .k .nil|simp_all
 case sl=>cases h;rw[ZY];exact .cons .sl .nil
 all_goals cases h
 ·exact .cons .int .nil
 ·exact .cons .cX .nil
 ·rename_i h';exact .cons (.bo h') .nil
 ·exact .cons .str .nil
 ·rename_i h';exact .cons (.dH h') .nil
 ·rename_i h';exact .cons (.ptr h') .nil
 ·rename_i h';exact .cons (.fn h') .nil
theorem abb{B:List Bool}{v:aL J.ax}{w:V}(h:Kx v=true)(af:bS J B ρ fs v w):ez w=true:=by
 cases af<;>simp only[Kx]at h<;>first|rfl|exact amo _ _ _|exact h|cases h
theorem QA{B:List Bool}:∀{cs:List (aL J.ax)} {ws:List V},Ge cs=true->bu J B ρ fs cs ws->bM ws=true
 | _,_,_,.nil=>rfl
 | _,_,h,.cons h' r=>by
   simp only[Ge]at h;split at h
   ·rename_i e;simp only[bM,abb e h',QA h r,Bl]
   ·cases h
theorem abc (R:bW J b F fs s σ H G ρ){o:Nat}{w:V}(h:wF s.mem o=true)(af:bS J s.aH ρ fs (.row o) w):aE w=[w]/\ez w=true:=by
 unfold wF at h;split at h
 ·rename_i hm
  obtain⟨v,h1,h2⟩:=R.mem _ _ hm;cases af with
  |row ar=>
   rw[h1]at ar;cases ar;exact⟨h2.cells,h2.ez⟩
 ·cases h
theorem aps (R:bW J b F fs s σ H G ρ){v:aL J.ax}{w:V}{cs:List (aL J.ax)}(h:Qr s.mem v=some cs)(af:bS J s.aH ρ fs v w):bu J s.aH ρ fs cs (aE w):=by
 unfold Qr at h;split at h
 ·split at h
  ·rename_i e
   cases h;rw[(abc R e af).1];exact .cons af .nil
  ·cases h
 ·exact Ao h af
theorem abd (R:bW J b F fs s σ H G ρ):∀{cs:List (aL J.ax)} {ws:List V},KI s.mem cs=true->bu J s.aH ρ fs cs ws->bM ws=true
 | _,_,_,.nil=>rfl
 | _,_,h,.cons (w:=w) h' r=>by
   unfold KI at h;split at h
   ·rename_i e
    have:ez w=true:=by
     split at e
     ·exact(abc R e h').2
     ·exact abb e h'
    simp only[bM,this,abd R h r,Bl]
   ·cases h
theorem Gu{B:List Bool}{cs:List (aL J.ax)}{ws:List V}{off:Nat}{sh:Option Nat}{v:aL J.ax}(h:cut cs off sh=some v)(hc:bu J B ρ fs cs ws):∃w,iw ws off sh=some w/\bS J B ρ fs v w:=by
 cases sh with
 |none=>
  simp only[cut,wC]at h;exact hc.get h
 |some n=>
  simp only[cut]at h;split at h
  ·rename_i e
   cases h;refine⟨_,?_,.agg ((hc.drop off).take n)⟩;simp only[iw];rw[if_pos (by rw[<-hc.length];exact ma e)]
  ·cases h
theorem KT{B:List Bool}:∀{xs:List (aL J.ax)} {cB:List V},bu J B ρ fs xs cB->∀{cs:List (aL J.ax)} {ws:List V} (o:Nat),bu J B ρ fs cs ws->bu J B ρ fs (uG cs o xs) (setCells ws o cB)
 | _,_,.nil,_,_,_,h=>h
 | _,_,.cons h' r,_,_,o,h=>KT r (o+1) (h.set o h')
theorem cV (R:bW J b F fs s σ H G ρ)(bO:∀t v,bc aq t=some v->bS J s.aH ρ fs v (aW t)):∀{x:ai} {v:aL J.ax},ag aq s x=some v->bS J s.aH ρ fs v (bn aW σ x)
 | .tmp t,_,h=>bO t _ h
 | .var t,_,h=>R.vs t _ h
 | .const v,_,h=>by cases h;exact KS v
 | .func i,_,h=>by cases h;exact .fn .nil
theorem wJ (R:bW J b F fs s σ H G ρ)(bO:∀t v,bc aq t=some v->bS J s.aH ρ fs v (aW t)):∀{xs:List ai} {vs:List (aL J.ax)},wD aq s xs=some vs->bu J s.aH ρ fs vs (xs.map (bn aW σ))
 |[],_,h=>by cases h;exact .nil
 |x::r,_,h=>by
  simp only[wD]at h;split at h
  ·rename_i v e
   split at h
   ·rename_i l aj
    cases h;exact .cons (cV R bO e) (wJ R bO aj)
   ·cases h
  ·cases h
section
variable{A:Type}[aG A]{S:A->Prop}
theorem CX (az:l6 S){v:aL J.ax}{w:V}{qm cr:bp J->A}(h:S (split s v qm cr))(hk:∀i β,bc s.dK i=some β->s.aH[i]? =some β)(af:bS J s.aH ρ fs v w):
  ∃β ao,w=.bool β/\jI s ao/\ao.aH=s.aH/\((β=true/\S (qm ao))\/(β=false/\S (cr ao))):=by
 cases af<;>simp only[split]at h
 case cX b=>cases b<;>exact⟨_,s,rfl,.rfl,rfl,by simpa using h⟩
 case bo i b neg hb=>
  split at h
  ·rename_i eA e
   have fu:=hk _ _ e;rw[hb]at fu;cases fu;refine⟨_,s,rfl,.rfl,rfl,?_⟩;cases b<;>cases neg<;>simpa using h
  ·rename_i e
   rw[wC,hb]at h
   have key:∀β,b=β->jI s {s with dK:=(i,β)::s.dK}:=fun β pw=>⟨rfl,rfl,rfl,rfl,rfl,dS,fun q j apt hj=>by
    rw[fT]at hj;split at hj
    ·rename_i e;cases hj;subst e;rw[<-pw];exact hb
    ·exact q j apt hj⟩
   cases neg<;>simp only at h<;>rcases az.br h with⟨hc,h2⟩|⟨hc,h2⟩<;>subst hc
   ·exact⟨_,_,rfl,key true rfl,rfl,.inl ⟨rfl,h2⟩⟩
   ·exact⟨_,_,rfl,key false rfl,rfl,.inr ⟨rfl,h2⟩⟩
   ·exact⟨_,_,rfl,key true rfl,rfl,.inr ⟨rfl,h2⟩⟩
   ·exact⟨_,_,rfl,key false rfl,rfl,.inl ⟨rfl,h2⟩⟩
 all_goals exact absurd h az.bad
theorem CY{v:aL J.ax}{w:V}{c:Bool}(h:xZ s v=some c)(af:bS J s.aH ρ fs v w):w=.bool c:=by
 cases af<;>simp only[xZ]at h
 case cX=>cases h;rfl
 case bo i b neg hb=>
  rw[wC,hb]at h;cases neg<;>cases h<;>simp
 all_goals cases h
theorem apu (c:Bool):jI s {s with aH:=s.aH++[c]}:=⟨rfl,rfl,rfl,rfl,rfl,hB _ _,fun q i β h=>lK (hB _ _) (q i β h)⟩
theorem KU (l:List Bool):jI s {s with aH:=s.aH++l}:=⟨rfl,rfl,rfl,rfl,rfl,hB _ _,fun q i β h=>lK (hB _ _) (q i β h)⟩
theorem abe{c neg:Bool}{k:aL J.ax->bp J->A}(h:S (name s c neg k)):∃v ao,S (k v ao)/\jI s ao/\bS J ao.aH ρ fs v (.bool (c != neg)):=
 ⟨_,_,h,apu c,.bo (by simp)⟩
theorem Ap (aT:gj J){t:Nat}{x:J.ax t}{k:aL J.ax->bp J->A}(h:S (elem t x s k)):∃v ao,S (k v ao)/\jI s ao/\bS J ao.aH ρ fs v (J.enc t x):=
 ⟨_,_,h,KU _,aT.gZ t x s.aH ρ fs⟩
end
end
end Go.Abs.hq
