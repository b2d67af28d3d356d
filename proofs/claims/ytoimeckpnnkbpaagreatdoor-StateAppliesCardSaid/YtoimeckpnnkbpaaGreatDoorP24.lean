/- Texts of this claim, joined and written short by a program. -/
import Derived.Test.YtoimeckpnnkbpaaGreatDoorP23
import Derived.Test.YtoimeckpnnkbpaaGreatDoorP21
import Derived.Test.YtoimeckpnnkbpaaGreatDoorP00
set_option linter.unusedVariables false
set_option linter.unusedSimpArgs false
set_option linter.unusedSectionVars false
namespace Go.Abs.gK
open Go Go.Abs
inductive lK where
 |v (t:Nat)
 |f (dK:List Nat) (rt:Nat)
 deriving DecidableEq
section
variable (J:ib)
def dS:List Nat->Type
 |[]=>Unit
 |a::r=>match r with
  |[]=>J.ax a
  | _::_=>J.ax a × dS r
def ajy:lK->Type
 | .v t=>J.ax t
 | .f dK rt=>dS J dK->Option (J.ax rt)
def nO:List lK->Type
 |[]=>Unit
 |a::r=>ajy J a × nO r
def y5:List (List Nat)->Type
 |[]=>Unit
 |a::r=>match r with
  |[]=>dS J a
  | _::_=>cP (dS J a) (y5 r)
structure cn where
 id:Nat
 caps:List Nat
 args:List lK
 res:List Nat
 fn:dS J caps->nO J args->Option (dS J res)
structure Er where
 dK:List Nat
 rt:Nat
 f:dS J dK->Option (J.ax rt)
structure ni where
 T:List (cn J)
 fv:List (Er J)
 ty:List (Nat × Nat)
 vz:List (Nat × Nat × Nat)
end
section
variable{J:ib}{A:Type}[aM A]
def xa{a:Nat}:(r:List Nat)->J.ax a->dS J r->dS J (a::r)
 |[],x,_=>x
 | _::_,x,y=>(x,y)
def ox{a:Nat}:(r:List Nat)->dS J (a::r)->J.ax a
 |[],x=>x
 | _::_,x=>x.1
def xb{a:Nat}:(r:List Nat)->dS J (a::r)->dS J r
 |[],_=>()
 | _::_,x=>x.2
def IJ:(dK:List Nat)->dS J dK->nO J (dK.map lK.v)
 |[],_=>()
 | _::r,x=>(ox r x,IJ r (xb r x))
def p4 (B:List Bool):(ts:List Nat)->List (aJ J.ax)->Option (dS J ts)
 |[],[]=>some ()
 |t::ts,v::vs=>match J.iu t v B with
  |none=>none
  |some x=>match p4 B ts vs with
   |none=>none
   |some l=>some (xa ts x l)
 | _,_=>none
def NP (m:List (Nat × ch J)):aJ J.ax->Option (aJ J.ax)
 | .ptr o 0=>match bd m o with
   |some (.cells _ [c])=>match c with
    | .agg _=>none
    |c=>match q8 c with
     |some _=>some c
     |none=>none
   |some (.cells _ cs)=>some (.agg cs)
   | _=>none
 | _=>none
def Es:List (aJ J.ax)->List Nat->Bool
 |[],_=>true
 | .ptr o _::r,l=>match mem o l with
   |true=>false
   |false=>Es r (o::l)
 | _::_,_=>false
def y6:List lK->Bool
 |[]=>true
 | .v _::r=>y6 r
 | .f .. ::_=>false
def Et (m:List (Nat × ch J)):List (aJ J.ax)->Option (List (aJ J.ax))
 |[]=>some []
 |v::r=>match NP m v with
  |none=>none
  |some c=>match Et m r with
   |none=>none
   |some l=>some (c::l)
def vA:List (cn J)->Nat->Option (cn J)
 |[],_=>none
 |e::r,i=>match Nat.beq e.id i with
  |true=>some e
  |false=>vA r i
def NQ (bR:ni J)(s:bh J)(dK:List Nat)(rt:Nat):aJ J.ax->Option (dS J dK->Option (J.ax rt))
 | .fv j=>match nth bR.fv j with
   |none=>none
   |some f=>if h:f.dK=dK/\f.rt=rt then some fun z=>h.2 ▸ f.f (h.1 ▸ z)else none
 | .fn i cs=>match vA bR.T i with
   |none=>none
   |some e=>match Et s.mem cs,Es cs []with
    |some vs,true=>match p4 s.aI e.caps vs with
     |none=>none
     |some c=>if h:e.args=dK.map lK.v/\e.res=[rt]then some fun z=>(congrArg (fun l=>Option (dS J l)) h.2).mp (e.fn c (h.1 ▸ IJ dK z))else none
    | _,_=>none
 | _=>none
def xc (bR:ni J)(s:bh J):(aO:List lK)->List (aJ J.ax)->Option (nO J aO)
 |[],[]=>some ()
 | .v t::aO,v::vs=>match J.iu t v s.aI with
   |none=>none
   |some x=>match xc bR s aO vs with
    |none=>none
    |some l=>some (x,l)
 | .f dK rt::aO,v::vs=>match NQ bR s dK rt v with
   |none=>none
   |some x=>match xc bR s aO vs with
    |none=>none
    |some l=>some (x,l)
 | _,_=>none
def elems:(ts:List Nat)->dS J ts->bh J->(List (aJ J.ax)->bh J->A)->A
 |[],_,s,k=>k [] s
 |t::ts,x,s,k=>elem t (ox ts x) s fun v s=>elems ts (xb ts x) s fun vs s=>k (v::vs) s
def IK (ts:List Nat)(x:dS J ts)(s:bh J)(k:aJ J.ax->bh J->A):A:=elems ts x s fun vs s=>match vs with
 |[v]=>k v s
 |vs=>k (.aU vs) s
def IL (bR:ni J)(s:bh J)(f:aJ J.ax)(aO:List (aJ J.ax))(k:aJ J.ax->bh J->A):A:=match f with
 | .fv j=>match nth bR.fv j with
   |none=>aM.bad
   |some f=>match p4 s.aI f.dK aO with
    |none=>aM.bad
    |some a=>aM.c2 (f.f a) fun r=>elem f.rt r s k
 | .fn i cs=>match vA bR.T i with
   |none=>aM.bad
   |some e=>match Et s.mem cs,Es cs [],(match cs with|[]=>true| _=>y6 e.args)with
    |some vs,true,true=>match p4 s.aI e.caps vs with
     |none=>aM.bad
     |some c=>match xc bR s e.args aO with
      |none=>aM.bad
      |some a=>aM.c2 (e.fn c a) fun r=>IK e.res r s k
    | _,_,_=>aM.bad
 | _=>aM.bad
def lL (o:Nat)(b:ch J):List (Nat × ch J)->List (Nat × ch J)
 |[]=>[]
 |(k,c)::r=>match Nat.beq k o with
  |true=>(k,b)::r
  |false=>(k,c)::lL o b r
def marks (o f:Nat):Nat->List (Nat × Nat)->List (Nat × Nat)
 |0,l=>l
 |n+1,l=>(o,f+n)::marks o f n l
def kh (s:bh J)(b:ch J):bh J:={s with mem:=(s.aB,b)::s.mem,aB:=s.aB+1}
def q9 (o:Nat):List (Nat × ch J)->List (Nat × ch J)
 |[]=>[]
 |(k,c)::r=>match Nat.beq k o with
  |true=>r
  |false=>(k,c)::q9 o r
def mO (o n:Nat)(b:ch J):List (Nat × ch J)->List (Nat × ch J)
 |[]=>[]
 |(k,c)::r=>match Nat.beq k o with
  |true=>(n,b)::r
  |false=>(k,c)::mO o n b r
def tB (f:List (Nat × ch J)->aJ J.ax->Option (aJ J.ax × List (Nat × ch J))):List (Nat × ch J)->List (aJ J.ax)->Option (List (aJ J.ax) × List (Nat × ch J))
 |m,[]=>some ([],m)
 |m,v::r=>match f m v with
  |none=>none
  |some (v',m)=>match tB f m r with
   |none=>none
   |some (l,m)=>some (v'::l,m)
def pP:Nat->List (Nat × ch J)->aJ J.ax->Option (aJ J.ax × List (Nat × ch J))
 |0,_,_=>none
 |n+1,m,v=>match v with
  | .row o=>match bd m o with
    |some (.row t x)=>some (.sl t x,q9 o m)
    | _=>none
  | .agg vs=>match tB (pP n) m vs with
    |some (l,m)=>some (.agg l,m)
    |none=>none
  | .aU vs=>match tB (pP n) m vs with
    |some (l,m)=>some (.aU l,m)
    |none=>none
  | .int k i=>some (.int k i,m)
  | .b0 b=>some (.b0 b,m)
  | .bo i b=>some (.bo i b,m)
  | .str b=>some (.str b,m)
  | .sl t x=>some (.sl t x,m)
  | .k v=>match bs v with
    |true=>some (.k v,m)
    |false=>none
  | _=>none
mutual
def ajz:aJ J.ax->Bool
 | .row _=>true
 | .agg vs=>IM vs
 | .aU vs=>IM vs
 | _=>false
def IM:List (aJ J.ax)->Bool
 |[]=>false
 |v::r=>match ajz v with
  |true=>true
  |false=>IM r
end
def Eu:List Nat->Bool
 |[]=>true
 |t::r=>match J.aR t with
  |true=>Eu r
  |false=>false
def NR (bR:ni J)(s:bh J)(f:aJ J.ax)(aO:List (aJ J.ax))(k:aJ J.ax->bh J->A):A:=match f with
 | .fn i []=>match vA bR.T i,tB (pP 16) s.mem aO with
   |some e,some (rE,_)=>match p4 s.aI e.caps [],xc bR s e.args rE,y6 e.args with
    |some c,some a,true=>aM.c2 (e.fn c a) fun r=>IK e.res r s fun v s=>match Eu (J:=J) e.res with
     |true=>k v s
     |false=>match v with
      | .sl _ x=>aM.br s.aI.length x.isNil (k (.k .cp) s) aM.bad
      | _=>aM.bad
    | _,_,_=>aM.bad
   | _,_=>aM.bad
 | _=>aM.bad
def gone (m':List (Nat × ch J)):List (Nat × ch J)->List (Nat × Nat)
 |[]=>[]
 |(o,_)::r=>match bd m' o with
  |some _=>gone m' r
  |none=>(o,0)::gone m' r
def Bq (m':List (Nat × ch J)):List (Nat × ch J)->Bool
 |[]=>true
 |(o,aP)::r=>match aP with
  | .cells .. =>match bd m' o with
    |some _=>Bq m' r
    |none=>false
  | _=>Bq m' r
def NS (bR:ni J)(s:bh J)(f:aJ J.ax)(aO:List (aJ J.ax))(k:aJ J.ax->bh J->A):A:=match f with
 | .fn i []=>match vA bR.T i,tB (pP 16) s.mem aO with
   |some e,some (rE,m')=>match p4 s.aI e.caps [],xc bR s e.args rE,y6 e.args,Bq m' s.mem with
    |some c,some a,true,true=>aM.c2 (e.fn c a) fun r=>IK e.res r s fun v al=>k v {al with mem:=m',cB:=gone m' s.mem++al.cB}
    | _,_,_,_=>aM.bad
   | _,_=>aM.bad
 | _=>aM.bad
def Br (s:bh J)(es bytes t:Nat)(x:ak (J.ax t))(o:Option Nat)(y:aJ J.ax)(k:aJ J.ax->bh J->Bool->A):A:=match Nat.beq (J.es t) es,e1 t y with
 |true,some y=>aM.c2 (lG bytes x y) fun z=>match o with
  |some o=>k (.row s.aB) {s with mem:=mO o s.aB (.row t z) s.mem,aB:=s.aB+1,cB:=(o,0)::s.cB} true
  |none=>k (.row s.aB) (kh s (.row t z)) true
 | _,_=>aM.bad
def NT:ag->ag->Bool
 | .tmp a,.tmp b=>Nat.beq a b
 | .var a,.var b=>Nat.beq a b
 | .const (.int _ a),.const (.int _ b)=>decide (a=b)
 | _,_=>false
def NU:aJ J.ax->Bool
 | .int .. | .b0 _| .bo .. | .str _| .sl .. | .ptr .. | .fn .. =>true
 | .k v=>plainCell v
 | _=>false
def IP:List (aJ J.ax)->Bool
 |[]=>true
 |v::r=>match NU v with
  |true=>IP r
  |false=>false
def NV (w:aJ J.ax)(f:Nat)(vs:List (aJ J.ax)):Option (aJ J.ax):=match w with
 | .agg cs=>match Nat.ble (f+vs.length) cs.length with
   |true=>some (.agg (tx cs f vs))
   |false=>none
 | .kL| .row _| .fv _| .k _| .iK .. =>none
 | _=>match f,vs with
   |0,[x]=>some x
   | _,_=>none
def vB (m:List (Nat × ch J))(o:Nat):Bool:=match bd m o with
 |some (.row ..)=>true
 | _=>false
def NW (m:List (Nat × ch J)):aJ J.ax->Option (List (aJ J.ax))
 | .row o=>match vB m o with
   |true=>some [.row o]
   |false=>none
 |v=>q8 v
def IQ (m:List (Nat × ch J)):List (aJ J.ax)->Bool
 |[]=>true
 |v::r=>match(match v with| .row o=>vB m o|v=>ID v)with
  |true=>IQ m r
  |false=>false
def NX (aw:k6 J)(s:bh J)(len:Nat)(parts:List (Nat × ag))(jc:Bool):Option (Nat × ag):=match len,parts,jc with
 |1,[(0,x)],true=>match ae aw s x with
  |some (.row o)=>some (o,x)
  | _=>none
 | _,_,_=>none
def oper (bR:ni J)(aw:k6 J)(s:bh J)(d:Option (Nat × Bool))(k:aJ J.ax->bh J->Bool->A):cH->A
 | .alloc z=>k (.ptr s.aB 0) (kh s (.cells true (Bp z))) true
 | .box x=>match ae aw s x with
   |none=>aM.bad
   |some v=>match q8 v with
    |none=>aM.bad
    |some cs=>match En cs with
     |true=>k (.ptr s.aB 0) (kh s (.cells true cs)) true
     |false=>aM.bad
 | .store n x y=>match ae aw s x,ae aw s y with
   |some (.ptr o f),some v=>match bd s.mem o,NW s.mem v with
    |some (.cells true cs),some vs=>match Nat.beq vs.length n,Nat.ble (f+n) cs.length,IQ s.mem vs with
     |true,true,true=>k (.k .undef) {s with mem:=lL o (.cells true (tx cs f vs)) s.mem,cB:=marks o f vs.length s.cB} true
     | _,_,_=>aM.bad
    | _,_=>aM.bad
   |some (.iK o i f),some v=>match bd s.mem o,q8 v with
    |some (.row t a),some vs=>match Nat.beq vs.length n,IP vs with
     |true,true=>aM.c2 (bQ a.l i) fun e=>elem t e s fun w s=>match NV w f vs with
      |none=>aM.bad
      |some w=>match J.iu t w s.aI with
       |none=>aM.bad
       |some e'=>k (.k .undef) {s with mem:=lL o (.row t (o9 a i e')) s.mem,cB:=(o,0)::s.cB} true
     | _,_=>aM.bad
    | _,_=>aM.bad
   | _,_=>aM.bad
 | .append es bytes a b=>match ae aw s a,ae aw s b with
   |some (.row o),some y=>match bd s.mem o with
    |some (.row t x)=>Br s es bytes t x (some o) y k
    | _=>aM.bad
   |some x,some (.sl t y)=>match xd x with
    |some (.k .cp)=>Br s es bytes t .nil none (.sl t y) k
    |some (.k .emp)=>Br s es bytes t .emp none (.sl t y) k
    | _=>aM.bad
   | _,_=>aM.bad
 | .mkSlice es z bytes l c=>match d with
   |some (q,_)=>match bd bR.ty q,NT l c,ae aw s l with
    |some t,true,some (.int _ n)=>match Nat.beq (J.es t) es,J.iu t (WH z) []with
     |true,some e=>aM.c2 (yI bytes e n) fun x=>k (.row s.aB) (kh s (.row t x)) true
     | _,_=>aM.bad
    | _,_,_=>aM.bad
   |none=>aM.bad
 | .mkMap=>match d with
   |some (q,_)=>match bd bR.ty q with
    |some c=>match J.mp c with
     |some p=>k (.row s.aB) (kh s (.mp p.1 p.2 [])) true
     |none=>aM.bad
    |none=>aM.bad
   |none=>aM.bad
 | .px kind x i y=>match ae aw s x,ae aw s i,ae aw s y with
   |some (.row o),some v,some w=>match bd s.mem o with
    |some (.mp ei ju m)=>match J.iu ei v s.aI,J.iu ju w s.aI,kindOf (J:=J) ei kind with
     |some x,some y,true=>k (.k .undef) {s with mem:=lL o (.mp ei ju (ajx ei ju m x y)) s.mem,cB:=(o,0)::s.cB} true
     | _,_,_=>aM.bad
    | _=>aM.bad
   | _,_,_=>aM.bad
 | .call false f aO=>match ae aw s f,vy aw s aO with
   |some f,some aO=>match IM aO with
    |true=>match(match d with|some (q,_)=>bd bR.ty q|none=>none)with
     |some _=>NS bR s f aO fun v s=>k v s true
     |none=>NR bR s f aO fun v s=>k v s false
    |false=>IL bR s f aO fun v s=>k v s false
   | _,_=>aM.bad
 | .call true f aO=>match ae aw s f,vy aw s aO with
   |some (.fn i []),some [v]=>match bd bR.vz i with
    |some p=>match e1 p.1 v with
     |some x=>aM.c2 (HD p.2 x) fun z=>k (.row s.aB) (kh s (.row p.1 z)) true
     |none=>aM.bad
    |none=>aM.bad
   | _,_=>aM.bad
 | .lit es z len parts jc=>match NX aw s len parts jc with
   |some (o,_)=>match d with
    |some (q,_)=>match bd bR.ty q,bd s.mem o with
     |some t,some (.row eY x)=>match J.iu t (.sl eY x) s.aI,Nat.beq (J.es t) es with
      |some e,true=>k (.sl t (.mk [e])) {s with mem:=q9 o s.mem,cB:=(o,0)::s.cB} true
      | _,_=>aM.bad
     | _,_=>aM.bad
    |none=>aM.bad
   |none=>Ep aw s (match d with|some (t,_)=>bd bR.ty t|none=>none) (fun v s=>k v s false) (.lit es z len parts jc)
 |op=>Ep aw s (match d with|some (t,_)=>bd bR.ty t|none=>none) (fun v s=>k v s false) op
def put (aw:k6 J)(s:bh J)(v:aJ J.ax):Option (Nat × Bool)->(k6 J × bh J)
 |none=>(aw,s)
 |some (t,false)=>((t,v)::aw,s)
 |some (t,true)=>(aw,{s with vs:=(t,v)::s.vs,dw:=t::s.dw})
def so (bR:ni J):List bO->k6 J->bh J->List Bool->(bh J->List Bool->A)->A
 |[],aw,s,wr,k=>k s wr.reverse
 |o::r,aw,s,wr,k=>
  let go:=fun s=>oper bR aw s o.dst (fun v s m=>match put aw s v o.dst with|(aw,s)=>so bR r aw s (m::wr) k) o.op;let skip:=fun s=>match put aw s (.aU []) o.dst with|(aw,s)=>so bR r aw s (false::wr) k
  match o.guard with
  |none=>go s
  |some (x,w)=>match ae aw s x with
   |none=>aM.bad
   |some v=>match v with
    | .aU []=>skip s
    |v=>match w with
     |true=>split s v go skip
     |false=>split s v skip go
def NY (bR:ni J)(aw:k6 J)(s:bh J)(d:Option (Nat × Bool))(k:aJ J.ax->bh J->A):cH->A
 | .call false f aO=>match ae aw s f,vy aw s aO with
   |some f,some aO=>IL bR s f aO k
   | _,_=>aM.bad
 |op=>Ep aw s (match d with|some (t,_)=>bd bR.ty t|none=>none) k op
def sq (bR:ni J):List bO->k6 J->bh J->(k6 J->bh J->A)->A
 |[],aw,s,k=>k aw s
 |o::r,aw,s,k=>
  let fin:=fun v s=>match put aw s v o.dst with|(aw,s)=>sq bR r aw s k
  let go:=fun s=>NY bR aw s o.dst fin o.op
  match o.guard with
  |none=>go s
  |some (x,w)=>match ae aw s x with
   |none=>aM.bad
   |some v=>match v with
    | .aU []=>fin (.aU []) s
    |v=>match w with
     |true=>split s v go (fin (.aU []))
     |false=>split s v (fin (.aU [])) go
inductive Loc where
 |s (t:Nat)
 |m (o j:Nat)
inductive ajA (J:ib) where
 |p (t:Nat)
 |c (v:aJ J.ax)
 |r (t:Nat)
 |d
abbrev mP (J:ib):=List (Loc × ajA J)
def iv:mP J->List Nat
 |[]=>[]
 |(_,.p t)::r=>t::iv r
 |(_,.c _)::r=>iv r
 |(_,.r t)::r=>t::iv r
 |(_,.d)::r=>iv r
def at_ (s:bh J):Loc->Option (aJ J.ax)
 | .s t=>bd s.vs t
 | .m o j=>match bd s.mem o with
   |some (.cells _ cs)=>nth cs j
   | _=>none
mutual
def same:aJ J.ax->aJ J.ax->Bool
 | .b0 a,.b0 b=>match a,b with
   |true,true=>true
   |false,false=>true
   | _,_=>false
 | .bo i n,.bo j m=>match Nat.beq i j,n,m with
   |true,true,true=>true
   |true,false,false=>true
   | _,_,_=>false
 | .int k a,.int bp b=>match decide (k=bp)with
   |true=>decide (a=b)
   |false=>false
 | .k v,.k w=>dP v w
 | .ptr o f,.ptr o' lR=>match Nat.beq o o' with
   |true=>Nat.beq f lR
   |false=>false
 | .fv j,.fv uL=>Nat.beq j uL
 | .fn i cs,.fn z1 cs'=>match Nat.beq i z1 with
   |true=>y7 cs cs'
   |false=>false
 | .agg cs,.agg cs'=>y7 cs cs'
 | .str a,.str b=>decide (a=b)
 | _,_=>false
def y7:List (aJ J.ax)->List (aJ J.ax)->Bool
 |[],[]=>true
 |a::r,b::s=>match same a b with
  |true=>y7 r s
  |false=>false
 | _,_=>false
end
mutual
def wf (n m:Nat):aJ J.ax->Bool
 | .bo i _=>Nat.blt i n
 | .ptr o _=>Nat.blt o m
 | .row o=>Nat.blt o m
 | .iK o _ _=>Nat.blt o m
 | .agg vs=>y8 n m vs
 | .aU vs=>y8 n m vs
 | .dn vs _=>y8 n m vs
 | .fn _ cs=>y8 n m cs
 | _=>true
def y8 (n m:Nat):List (aJ J.ax)->Bool
 |[]=>true
 |v::r=>match wf n m v with
  |true=>y8 n m r
  |false=>false
end
def p5 (o j:Nat):List (Nat × Nat)->Bool
 |[]=>false
 |(a,b)::r=>match Nat.beq a o,Nat.beq b j with
  |true,true=>true
  | _,_=>p5 o j r
def NZ (c ei ju:Nat)(x:List (J.ax ei × J.ax ju)):Option (J.ax c):=match h:J.mp c with
 |none=>none
 |some p=>if e:p=(ei,ju)then some ((J.WE c (ei,ju) (h.trans (congrArg some e))).symm ▸ x)else none
def IU (c:Nat)(v:aJ J.ax):Option (J.ax c):=match J.mp c with
 |some _=>none
 |none=>J.iu c v []
def rowAt (c:Nat)(x:J.ax c):Option (ch J):=match h:J.mp c with
 |some p=>some (.mp p.1 p.2 (J.WE c p h ▸ x))
 |none=>match J.k5 c x 0 with
  | .sl t y=>some (.row t y)
  | _=>none
def nP (n m:Nat)(M:List (Nat × Nat))(s:bh J)(u:List Nat):(sh:mP J)->Option (dS J (iv sh))
 |[]=>some ()
 |(l,.p t)::r=>match at_ s l with
  |none=>none
  |some v=>match J.iu t v s.aI with
   |none=>none
   |some x=>match nP n m M s u r with
    |none=>none
    |some y=>some (xa (iv r) x y)
 |(l,.c v)::r=>match at_ s l with
  |none=>none
  |some w=>match same w v,wf n m v with
   |true,true=>nP n m M s u r
   | _,_=>none
 |(_,.d)::r=>nP n m M s u r
 |(l,.r c)::r=>match at_ s l with
  |none=>none
  |some v=>match v with
   | .row o=>match bd s.mem o,mem o u,(match Nat.ble m o with|true=>true|false=>p5 o 0 M)with
     |some (.row t x),false,true=>match IU c (.sl t x)with
      |none=>none
      |some x=>match nP n m M s (o::u) r with
       |none=>none
       |some y=>some (xa (iv r) x y)
     |some (.mp ei ju x),false,true=>match NZ c ei ju x with
      |none=>none
      |some x=>match nP n m M s (o::u) r with
       |none=>none
       |some y=>some (xa (iv r) x y)
     | _,_,_=>none
   |v=>match xd v with
    |none=>none
    |some v=>match IU c v with
     |none=>none
     |some x=>match nP n m M s u r with
      |none=>none
      |some y=>some (xa (iv r) x y)
def ki (s:bh J)(l:Loc)(v:aJ J.ax):bh J:=match l with
 | .s t=>{s with vs:=(t,v)::s.vs}
 | .m o j=>match bd s.mem o with
   |some (.cells w cs)=>{s with mem:=lL o (.cells w (cs.set j v)) s.mem}
   | _=>s
def p6:(sh:mP J)->dS J (iv sh)->bh J->bh J
 |[],_,s=>s
 |(l,.p t)::r,x,s=>p6 r (xb (iv r) x) (ki {s with aI:=s.aI++J.w8 t (ox (iv r) x)} l (J.k5 t (ox (iv r) x) s.aI.length))
 |(l,.c v)::r,x,s=>p6 r x (ki s l v)
 |(_,.d)::r,x,s=>p6 r x s
 |(l,.r c)::r,x,s=>p6 r (xb (iv r) x) (match rowAt c (ox (iv r) x)with
  |some aP=>ki (kh s aP) l (.row s.aB)
  |none=>s)
def hN:mP J->List (Nat × Nat)
 |[]=>[]
 |(.m o j,_)::r=>(o,j)::hN r
 | _::r=>hN r
def ra (o:Nat)(M:List (Nat × Nat)):Nat->List (aJ J.ax)->List (aJ J.ax)
 | _,[]=>[]
 |j,c::r=>(match p5 o j M with
  |true=>.kL
  |false=>c)::ra o M (j+1) r
def p7 (M:List (Nat × Nat)):List (Nat × ch J)->List (Nat × ch J)
 |[]=>[]
 |(o,b)::r=>match b with
  | .cells w cs=>(o,.cells w (ra o M 0 cs))::p7 M r
  |b=>match p5 o 0 M with
   |true=>p7 M r
   |false=>(o,b)::p7 M r
def blank (W:List Nat)(M:List (Nat × Nat))(s:bh J):bh J:={s with vs:=(W.map fun t=>(t,.kL))++s.vs,mem:=p7 M s.mem}
def fq:mP J->List Nat
 |[]=>[]
 |(.s t,_)::r=>t::fq r
 | _::r=>fq r
def enter (W:List Nat)(M:List (Nat × Nat))(sh:mP J)(x:dS J (iv sh))(s:bh J):bh J:=
 {p6 sh x (blank (fq sh++W) (M++hN sh) s)with dv:=[],dw:=fq sh++(W++s.dw),cB:=M++(hN sh++s.cB)}
def Ev (W:List Nat):List Nat->Bool
 |[]=>true
 |t::r=>match mem t W with
  |true=>Ev W r
  |false=>false
def Ew (n:Nat)(M:List (Nat × Nat)):List (Nat × Nat)->Bool
 |[]=>true
 |(o,c)::r=>match Nat.ble n o with
  |true=>Ew n M r
  |false=>match p5 o c M with
   |true=>Ew n M r
   |false=>false
def Bs (n m:Nat)(W:List Nat)(M:List (Nat × Nat))(sh:mP J)(s:bh J):Option (dS J (iv sh)):=match Ev W s.dw with
 |false=>none
 |true=>match Ew m (M++hN sh) s.cB with
  |true=>nP n m (M++hN sh) s [] sh
  |false=>none
abbrev xe (J:ib):=List (X × mP J)
def y9:xe J->List (List Nat)
 |[]=>[]
 |(_,sh)::r=>iv sh::y9 r
def IV:X->X->Bool
 | .normal,.normal=>true
 | .ret,.ret=>true
 | .exit i,.exit j=>Nat.beq i j
 | _,_=>false
def za (n m:Nat)(W:List Nat)(M:List (Nat × Nat))(x:X)(s:bh J):(os:xe J)->Option (y5 J (y9 os))
 |[]=>none
 |(eI,sh)::r=>match r with
  |[]=>match IV x eI with
   |true=>Bs n m W M sh s
   |false=>none
  |q::r=>match IV x eI with
   |true=>match Bs n m W M sh s with
    |some y=>some (cP.go y)
    |none=>none
   |false=>match za n m W M x s (q::r)with
    |some y=>some (cP.ret y)
    |none=>none
def leave (W:List Nat)(M:List (Nat × Nat))(s:bh J)(k:X->bh J->A):(os:xe J)->y5 J (y9 os)->A
 |[],_=>aM.bad
 |(x,sh)::r,o=>match r,o with
  |[],o=>k x (enter W M sh o s)
  |q::r,o=>match o with
   | .go y=>k x (enter W M sh y s)
   | .ret y=>leave W M s k (q::r) y
inductive kM (J:ib) where
 |o
 |lt
 |md (n:Nat)
 |two (a b:kM J)
 |pc (os:xe J) (a b:kM J)
 |pu (sl:List Nat) (b:kM J)
 |fe (hd:mP J) (os:xe J) (a:kM J)
 |pl (a b:kM J)
def kM.l:kM J->kM J
 | .two a _=>a
 | _=>.o
def kM.r:kM J->kM J
 | .two _ b=>b
 | _=>.o
def oy:List bO->List Nat
 |[]=>[]
 |o::r=>match o.dst with
  |some (t,true)=>t::oy r
  | _=>oy r
def ajB (t:Nat)(l:List Nat):List Nat:=match mem t l with
 |true=>l
 |false=>t::l
def IW:List Nat->List Nat->List Nat
 |[],l=>l
 |t::r,l=>IW r (ajB t l)
def jM:cj->List Nat
 | .region ops _=>IW (oy ops) []
 | .xL ops _ _=>oy ops
 | .seq a b=>IW (jM a) (jM b)
 | .cond _ a b=>IW (jM a) (jM b)
 | .block _ a=>jM a
 | .loop a=>jM a
 | _=>[]
inductive vC where
 |lit (b:Bool)
 |nm (i:Nat) (neg:Bool) (b:Bool)
 |tm (b:Bool)
def vC.val:vC->Bool
 | .lit b=>b
 | .nm _ _ b=>b
 | .tm b=>b
def Ex (c:Bool)(x y:vC):vC:=match x,y with
 | .nm i n a,.nm j m b=>match Nat.beq i j,n,m with
   |true,true,true=>.nm i n (bif c then a else b)
   |true,false,false=>.nm i n (bif c then a else b)
   | _,_,_=>.tm (bif c then a else b)
 | .lit true,.lit true=>.lit true
 | .lit false,.lit false=>.lit false
 | .lit true,.lit false=>.tm c
 |x,.lit false=>.tm (c&&x.val)
 | .lit true,y=>.tm (c||y.val)
 |x,y=>.tm (bif c then x.val else y.val)
inductive WI (J:ib) where
 |v (v:aJ J.ax)
 |b (b:vC)
 |bad
def mx (l:Loc):ow (bh J)->WI J
 | .bad=>.bad
 | .leaf s=>match at_ s l with
   |none=>.bad
   |some v=>match v with
    | .b0 b=>.b (.lit b)
    | .bo i n=>match w9 s (.bo i n)with
      |some b=>.b (.nm i n b)
      |none=>.bad
    |v=>.v v
 | .br _ c t e=>match mx l t,mx l e with
   | .b x,.b y=>.b (Ex c x y)
   | .v (.int k a),.v (.int bp b)=>match decide (k=bp)with
     |true=>.v (.int k (bif c then a else b))
     |false=>.bad
   | .v (.str a),.v (.str b)=>.v (.str (bif c then a else b))
   | .v v,.v w=>match same v w with
     |true=>.v w
     |false=>.bad
   | _,_=>.bad
def tC (n m:Nat)(p:ow (bh J)):List Nat->bh J->(bh J->A)->A
 |[],s,k=>k s
 |t::r,s,k=>match mx (.s t) p with
  | .v v=>match wf n m v with
    |true=>tC n m p r {s with vs:=(t,v)::s.vs} k
    |false=>aM.bad
  | .b x=>match x with
    | .lit b=>tC n m p r {s with vs:=(t,.b0 b)::s.vs} k
    | .nm i neg b=>match Nat.blt i n with
      |true=>tC n m p r {s with vs:=(t,.bo i neg)::s.vs} k
      |false=>tC n m p r {s with vs:=(t,.bo s.aI.length false)::s.vs,aI:=s.aI++[b]} k
    | .tm b=>tC n m p r {s with vs:=(t,.bo s.aI.length false)::s.vs,aI:=s.aI++[b]} k
  | .bad=>aM.bad
def Bt (W:List Nat):ow (bh J)->Bool
 | .bad=>false
 | .leaf s=>match Ev W s.dw,s.cB with
   |true,[]=>true
   | _,_=>false
 | .br _ _ t e=>match Bt W t with
   |true=>Bt W e
   |false=>false
def fresh (s:bh J):bh J:={s with dv:=[],dw:=[],cB:=[]}
def IX (dE:Option (List Nat))(ops:List bO)(wr:List Bool)(a:A):A:=match dE with
 |none=>a
 |some dE=>match nX dE ops wr with
  |true=>a
  |false=>aM.bad
def IY (n:Nat):List (Nat × ch J)->Bool
 |[]=>true
 |e::r=>match Nat.ble n e.1 with
  |true=>IY n r
  |false=>false
def N0 (dE:List Nat)(ops:List bO)(wr:List Bool)(n:Nat)(m:List (Nat × ch J))(a:A):A:=match wk dE ops wr,IY n m with
 |true,true=>a
 | _,_=>aM.bad
def avm (bR:ni J):List bO->k6 J->bh J->List (Nat × ch J)->List Bool->(k6 J->bh J->List (Nat × ch J)->List Bool->A)->A
 |[],aw,s,p,w,k=>k aw s p w
 |o::r,aw,s,p,w,k=>match o with
  |⟨d,.call true f aO,none⟩=>match ae aw s f,vy aw s aO with
   |some (.fn i []),some [v]=>match bd bR.vz i with
    |some q=>match e1 q.1 v with
     |some x=>aM.c2 (HD q.2 x) fun z=>match put aw {s with aB:=s.aB+1} (.row s.aB) d with
      |(aw,s1)=>avm bR r aw s1 ((s.aB,.row q.1 z)::p) (w++[true]) k
     |none=>aM.bad
    |none=>aM.bad
   | _,_=>aM.bad
  |⟨d,.append es bytes a b,none⟩=>match ae aw s a,ae aw s b with
   |some (.row o),some y=>match bd p o with
    |some (.row t x)=>match Nat.beq (J.es t) es,e1 t y with
     |true,some y=>aM.c2 (lG bytes x y) fun z=>match put aw {s with aB:=s.aB+1} (.row s.aB) d with
      |(aw,s1)=>avm bR r aw s1 (mO o s.aB (.row t z) p) (w++[true]) k
     | _,_=>aM.bad
    | _=>aM.bad
   |some x,some (.sl t y)=>match Nat.beq (J.es t) es,xd x with
    |true,some (.k .emp)=>aM.c2 (lG bytes .emp y) fun z=>match put aw {s with aB:=s.aB+1} (.row s.aB) d with
     |(aw,s1)=>avm bR r aw s1 ((s.aB,.row t z)::p) (w++[true]) k
    | _,_=>aM.bad
   | _,_=>aM.bad
  |o=>sq bR [o] aw s fun aw s=>avm bR r aw s p (w++[false]) k
def N1 (bR:ni J)(dE:List Nat)(ops:List bO)(n:Nat)(s:bh J)(k:bh J->A):A:=
 avm bR (ops.take n) [] s [] [] fun aw s p w=>so bR (ops.drop n) aw {s with mem:=p++s.mem} w.reverse fun al wr=>match av0 dE ops w wr with
  |true=>k al
  |false=>aM.bad
def WK (W:List Nat)(s:bh J)(sl:List Nat)(p:ow (bh J))(k:bh J->A):A:=match Bt W p with
 |true=>tC s.aI.length s.aB p sl {blank W [] s with dw:=sl++(W++s.dw)} k
 |false=>aM.bad
noncomputable def IZ (f:kM J->{A:Type}->[aM A]->bh J->(X->bh J->A)->A)(W:List Nat)(hd:mP J)(os:xe J)(x:kM J)(s:bh J)(k:X->bh J->A):A:=match nP s.aI.length s.aB (hN hd) s [] hd with
 |none=>aM.bad
 |some tD=>aM.c2 (c0 (fun st=>f x (A:=Option (dM (dS J (iv hd)) (y5 J (y9 os)))) (fresh (enter W [] hd st s)) fun x al=>match x with
   | .normal=>match Bs s.aI.length s.aB W [] hd al with
     |some y=>some (.next y)
     |none=>none
   |x=>match za s.aI.length s.aB (fq hd++W) (hN hd) x al os with
    |some y=>some (.out y)
    |none=>none) tD) fun o=>
  leave (fq hd++W) (hN hd) s k os o
noncomputable def kj (bR:ni J):cj->kM J->{A:Type}->[aM A]->bh J->(X->bh J->A)->A
 | .skip,_,_,_,s,k=>k .normal s
 | .ret,_,_,_,s,k=>k .ret s
 | .exit i,_,_,_,s,k=>k (.exit i) s
 | .region ops dE,an,_,_,s,k=>match an,dE with
   | .lt,some dE=>sq bR (ops.take (kt ops)) [] s fun aw s=>so bR (ops.drop (kt ops)) aw {s with mem:=[]} (List.replicate (kt ops) false) fun al wr=>N0 dE ops wr s.aB al.mem (k .normal {al with mem:=al.mem++s.mem})
   | .md n,some dE=>N1 bR dE ops n s fun s=>k .normal s
   | _,dE=>so bR ops [] s [] fun s wr=>IX dE ops wr (k .normal s)
 | .seq a b,an,_,_,s,k=>match an with
   | .pc os x y=>aM.c2 (kj bR a x (A:=Option (y5 J (y9 os))) (fresh s) fun x al=>za s.aI.length s.aB (jM a) [] x al os) fun o=>
     leave (jM a) [] s (fun x al=>match x with
      | .normal=>kj bR b y al k
      |x=>k x al) os o
   | .pu sl y=>match a with
     | .region ops dE=>WK (oy ops) s sl (so bR ops [] {s with dw:=[],cB:=[]} [] fun s wr=>IX dE ops wr (ow.leaf s)) fun al=>kj bR b y al k
     | _=>aM.bad
   |an=>kj bR a an.l s fun x s=>match x with
    | .normal=>kj bR b an.r s k
    |x=>k x s
 | .cond c a b,an,_,_,s,k=>match ae [] s c with
   |none=>aM.bad
   |some v=>split s v (fun s=>kj bR a an.l s k) (fun s=>kj bR b an.r s k)
 | .block id a,an,_,_,s,k=>kj bR a an s fun x s=>k (AZ id x) s
 | .loop a,an,_,_,s,k=>match an with
   | .fe hd os x=>IZ (fun an {_:Type} [aM _] s k=>kj bR a an s k) (jM a) hd os x s k
   | .pl x (.fe hd os y)=>kj bR a x s fun e al=>match e with
     | .normal=>IZ (fun an {_:Type} [aM _] s k=>kj bR a an s k) (jM a) hd os y al k
     |e=>k e al
   | _=>aM.bad
 | _,_,_,_,_,_=>aM.bad
def zb:(aO:List lK)->nO J aO->Nat->bh J->List (Er J)->bh J × List (Er J)
 |[],_,_,s,f=>(s,f)
 | .v t::r,x,j,s,f=>zb r x.2 (j+1) {s with vs:=(j,J.k5 t x.1 s.aI.length)::s.vs,aI:=s.aI++J.w8 t x.1} f
 | .f dK rt::r,x,j,s,f=>zb r x.2 (j+1) {s with vs:=(j,.fv f.length)::s.vs} (f++[⟨dK,rt,x.1⟩])
def I0:(cs:List Nat)->dS J cs->Nat->bh J->Option (bh J)
 |[],_,_,s=>some s
 |t::r,x,j,s=>match q8 (J.k5 t (ox r x) s.aI.length)with
  |none=>none
  |some cs=>I0 r (xb r x) (j+1) {s with vs:=(j,.ptr s.aB 0)::s.vs,mem:=s.mem++[(s.aB,.cells false cs)],aB:=s.aB+1,aI:=s.aI++J.w8 t (ox r x)}
def Ey (s:bh J):List mB->Option (List (aJ J.ax))
 |[]=>some []
 |r::rs=>match(match r with
   | .tmp t=>bd s.vs t
   | .cell a sh=>match bd s.vs a with
     |some (.ptr o f)=>match bd s.mem o with
      |some (.cells _ cs)=>cut cs f sh
      | _=>none
     | _=>none)with
  |none=>none
  |some v=>match Ey s rs with
   |none=>none
   |some l=>some (v::l)
def N2 (s:bh J)(res:List Nat)(vs:List (aJ J.ax)):Option (dS J res):=match vs with
 |[v]=>match pP 16 s.mem v with
  |some (v,_)=>p4 s.aI res [v]
  |none=>none
 |vs=>match tB (pP 15) s.mem vs with
  |some (vs,_)=>p4 s.aI res vs
  |none=>none
def tD:bh J:=⟨[],[],0,[],[],[],[]⟩
noncomputable def N3 (T:List (cn J))(ty:List (Nat × Nat))(vz:List (Nat × Nat × Nat))(f:h3)(an:kM J)(caps:List Nat)(args:List lK)(res:List Nat)(c:dS J caps)(a:nO J args):Option (dS J res):=
 match zb args a 0 tD []with
 |(s,fv)=>match I0 caps c args.length s with
  |none=>none
  |some s=>kj ⟨T,fv,ty,vz⟩ f.body an s fun x s=>match x with
   | .exit _=>none
   | _=>match Ey s f.results with
     |some vs=>N2 s res vs
     |none=>none
def iL{ax:Nat->Type}(k:IntKind):aJ ax->Option Int
 | .int bp n=>match decide (bp=k)with
   |true=>some n
   |false=>none
 | _=>none
def I1{ax:Nat->Type}(B:List Bool):aJ ax->Option Bool
 | .b0 b=>some b
 | .bo i neg=>match nth B i with
   |some c=>match neg with
    |false=>some c
    |true=>some (!c)
   |none=>none
 | _=>none
def Ez{ax:Nat->Type}:aJ ax->Option bH
 | .str s=>some s
 | _=>none
def oz{ax:Nat->Type}{R:Type}(f:List (aJ ax)->Option R):aJ ax->Option R
 | .agg vs=>f vs
 | _=>none
end
end Go.Abs.gK
namespace Go.Abs.hk
open Go Go.Abs Go.Abs.gK
def rb:Nat->Type
 |0=>Int
 |1=>Bool
 |2=>bH
 |3=>Int
 |4=>gk
 |5=>(ak gk)
 |6=>(ak Int)
 |7=>Range
 |8=>Table
 |9=>(ak Table)
 |10=>(ak bH)
 |11=>Term
 |12=>(ak Term)
 |13=>Row
 |14=>Constraint
 |15=>(ak Constraint)
 |16=>cl
 |17=>(ak cl)
 |18=>Change
 |19=>(ak Change)
 |20=>(ak Row)
 |21=>mj
 |22=>(ak mj)
 |23=>eK
 |24=>Action
 |25=>(ak Action)
 |26=>Model
 |27=>(ak Bool)
 |28=>(ak Range)
 |29=>dN
 |30=>Token
 |31=>(ak Token)
 |32=>(ak (ak Int))
 |100=>List (bH × Bool)
 | _=>Unit
def ajC:Nat->Nat
 |4=>3
 |7=>2
 |8=>6
 |11=>2
 |13=>2
 |14=>6
 |16=>3
 |18=>2
 |21=>3
 |23=>3
 |24=>5
 |26=>7
 |29=>8
 |30=>4
 | _=>1
def WL:(t:Nat)->rb t->V
 |0,x=>aD x
 |1,x=>V.bool x
 |2,x=>V.str x
 |3,x=>(V.int .u8) x
 |4,x=>iX x
 |5,x=>(bg 3 iX) x
 |6,x=>(bg 1 aD) x
 |7,x=>pS x
 |8,x=>lH x
 |9,x=>(bg 6 lH) x
 |10,x=>(bg 1 V.str) x
 |11,x=>tn x
 |12,x=>(bg 2 tn) x
 |13,x=>tp x
 |14,x=>sf x
 |15,x=>(bg 6 sf) x
 |16,x=>sg x
 |17,x=>(bg 3 sg) x
 |18,x=>tq x
 |19,x=>(bg 2 tq) x
 |20,x=>(bg 2 tp) x
 |21,x=>tr x
 |22,x=>(bg 3 tr) x
 |23,x=>A5 x
 |24,x=>si x
 |25,x=>(bg 5 si) x
 |26,x=>vn x
 |27,x=>(bg 1 V.bool) x
 |28,x=>(bg 2 pS) x
 |29,x=>DG x
 |30,x=>avM x
 |31,x=>(bg 4 avM) x
 |32,x=>(bg 1 (bg 1 aD)) x
 | _,_=>.cp
def ajD:(t:Nat)->rb t->Nat->aJ rb
 |0,x,n=>.int .i64 x
 |1,x,n=>.bo n false
 |2,x,n=>.str x
 |3,x,n=>.int .u8 x
 |4,x,n=>.agg [.int .i64 x.Table,.int .i64 x.jt,.int .i64 x.da]
 |5,x,n=>.sl 4 x
 |6,x,n=>.sl 0 x
 |7,x,n=>.agg [.int .i64 x.kI,.int .i64 x.kJ]
 |8,x,n=>.agg [.str x.Name,.int .i64 x.Kind,.sl 0 x.bP,.int .i64 x.Range.kI,.int .i64 x.Range.kJ,.int .i64 x.dG]
 |9,x,n=>.sl 8 x
 |10,x,n=>.sl 2 x
 |11,x,n=>.agg [.int .i64 x.Cell,.int .i64 x.pT]
 |12,x,n=>.sl 11 x
 |13,x,n=>.agg [.sl 11 x.eT,.int .i64 x.q3]
 |14,x,n=>.agg [.int .i64 x.Kind,.int .i64 x.yR,.sl 11 x.Row.eT,.int .i64 x.Row.q3,.int .i64 x.dG,.int .i64 x.w1]
 |15,x,n=>.sl 14 x
 |16,x,n=>.agg [.str x.Name,.bo n false,.sl 0 x.bC]
 |17,x,n=>.sl 16 x
 |18,x,n=>.agg [.int .i64 x.Cell,.int .i64 x.Add]
 |19,x,n=>.sl 18 x
 |20,x,n=>.sl 13 x
 |21,x,n=>.agg [.int .i64 x.Kind,.int .i64 x.Cell,.int .i64 x.Value]
 |22,x,n=>.sl 21 x
 |23,x,n=>.agg [.sl 18 x.Delta,.sl 13 x.ia,.sl 21 x.hL]
 |24,x,n=>.agg [.int .i64 x.cl,.sl 0 x.bL,.sl 18 x.eK.Delta,.sl 13 x.eK.ia,.sl 21 x.eK.hL]
 |25,x,n=>.sl 24 x
 |26,x,n=>.agg [.sl 0 x.bC,.sl 8 x.Tables,.sl 2 x.fE,.sl 14 x.fu,.sl 16 x.Operations,.sl 24 x.Actions,.sl 4 x.b7]
 |27,x,n=>.sl 1 x
 |28,x,n=>.sl 7 x
 |29,x,n=>.agg [.sl 0 x.Model.bC,.sl 8 x.Model.Tables,.sl 2 x.Model.fE,.sl 14 x.Model.fu,.sl 16 x.Model.Operations,.sl 24 x.Model.Actions,.sl 4 x.Model.b7,.sl 7 x.strict]
 |30,x,n=>.agg [.int .i64 x.Kind,.int .i64 x.aDH,.int .i64 x.At,.int .i64 x.End]
 |31,x,n=>.sl 30 x
 |32,x,n=>.sl 6 x
 | _,_,_=>.k .cp
def ajE:(t:Nat)->rb t->List Bool
 |1,x=>[x]
 |16,x=>[x.Ordered]
 | _,_=>[]
def ajF:(t:Nat)->aJ rb->List Bool->Option (rb t)
 |0,v,B=>iL .i64 v
 |1,v,B=>I1 B v
 |2,v,B=>Ez v
 |3,v,B=>iL .u8 v
 |4,v,B=>oz (fun vs=>match vs with
  |[fk,dq,fb]=>(iL .i64 fk).bind fun c6=>(iL .i64 dq).bind fun cb=>(iL .i64 fb).bind fun dR=>some ⟨c6,cb,dR⟩
  | _=>none) v
 |5,v,B=>e1 4 v
 |6,v,B=>e1 0 v
 |7,v,B=>oz (fun vs=>match vs with
  |[fk,dq]=>(iL .i64 fk).bind fun c6=>(iL .i64 dq).bind fun cb=>some ⟨c6,cb⟩
  | _=>none) v
 |8,v,B=>oz (fun vs=>match vs with
  |[fk,dq,fb,gG,iC,jj]=>(Ez fk).bind fun c6=>(iL .i64 dq).bind fun cb=>(e1 0 fb).bind fun dR=>(iL .i64 gG).bind fun gR=>(iL .i64 iC).bind fun kK=>(iL .i64 jj).bind fun fl=>some ⟨c6,cb,dR,⟨gR,kK⟩,fl⟩
  | _=>none) v
 |9,v,B=>e1 8 v
 |10,v,B=>e1 2 v
 |11,v,B=>oz (fun vs=>match vs with
  |[fk,dq]=>(iL .i64 fk).bind fun c6=>(iL .i64 dq).bind fun cb=>some ⟨c6,cb⟩
  | _=>none) v
 |12,v,B=>e1 11 v
 |13,v,B=>oz (fun vs=>match vs with
  |[fk,dq]=>(e1 11 fk).bind fun c6=>(iL .i64 dq).bind fun cb=>some ⟨c6,cb⟩
  | _=>none) v
 |14,v,B=>oz (fun vs=>match vs with
  |[fk,dq,fb,gG,iC,jj]=>(iL .i64 fk).bind fun c6=>(iL .i64 dq).bind fun cb=>(e1 11 fb).bind fun dR=>(iL .i64 gG).bind fun gR=>(iL .i64 iC).bind fun kK=>(iL .i64 jj).bind fun fl=>some ⟨c6,cb,⟨dR,gR⟩,kK,fl⟩
  | _=>none) v
 |15,v,B=>e1 14 v
 |16,v,B=>oz (fun vs=>match vs with
  |[fk,dq,fb]=>(Ez fk).bind fun c6=>(I1 B dq).bind fun cb=>(e1 0 fb).bind fun dR=>some ⟨c6,cb,dR⟩
  | _=>none) v
 |17,v,B=>e1 16 v
 |18,v,B=>oz (fun vs=>match vs with
  |[fk,dq]=>(iL .i64 fk).bind fun c6=>(iL .i64 dq).bind fun cb=>some ⟨c6,cb⟩
  | _=>none) v
 |19,v,B=>e1 18 v
 |20,v,B=>e1 13 v
 |21,v,B=>oz (fun vs=>match vs with
  |[fk,dq,fb]=>(iL .i64 fk).bind fun c6=>(iL .i64 dq).bind fun cb=>(iL .i64 fb).bind fun dR=>some ⟨c6,cb,dR⟩
  | _=>none) v
 |22,v,B=>e1 21 v
 |23,v,B=>oz (fun vs=>match vs with
  |[fk,dq,fb]=>(e1 18 fk).bind fun c6=>(e1 13 dq).bind fun cb=>(e1 21 fb).bind fun dR=>some ⟨c6,cb,dR⟩
  | _=>none) v
 |24,v,B=>oz (fun vs=>match vs with
  |[fk,dq,fb,gG,iC]=>(iL .i64 fk).bind fun c6=>(e1 0 dq).bind fun cb=>(e1 18 fb).bind fun dR=>(e1 13 gG).bind fun gR=>(e1 21 iC).bind fun kK=>some ⟨c6,cb,⟨dR,gR,kK⟩⟩
  | _=>none) v
 |25,v,B=>e1 24 v
 |26,v,B=>oz (fun vs=>match vs with
  |[fk,dq,fb,gG,iC,jj,EA]=>(e1 0 fk).bind fun c6=>(e1 8 dq).bind fun cb=>(e1 2 fb).bind fun dR=>(e1 14 gG).bind fun gR=>(e1 16 iC).bind fun kK=>(e1 24 jj).bind fun fl=>(e1 4 EA).bind fun oo=>some ⟨c6,cb,dR,gR,kK,fl,oo⟩
  | _=>none) v
 |27,v,B=>e1 1 v
 |28,v,B=>e1 7 v
 |29,v,B=>oz (fun vs=>match vs with
  |[fk,dq,fb,gG,iC,jj,EA,ajG]=>(e1 0 fk).bind fun c6=>(e1 8 dq).bind fun cb=>(e1 2 fb).bind fun dR=>(e1 14 gG).bind fun gR=>(e1 16 iC).bind fun kK=>(e1 24 jj).bind fun fl=>(e1 4 EA).bind fun oo=>(e1 7 ajG).bind fun mm=>some ⟨⟨c6,cb,dR,gR,kK,fl,oo⟩,mm⟩
  | _=>none) v
 |30,v,B=>oz (fun vs=>match vs with
  |[fk,dq,fb,gG]=>(iL .i64 fk).bind fun c6=>(iL .i64 dq).bind fun cb=>(iL .i64 fb).bind fun dR=>(iL .i64 gG).bind fun gR=>some ⟨c6,cb,dR,gR⟩
  | _=>none) v
 |31,v,B=>e1 30 v
 |32,v,B=>e1 6 v
 | _,_,_=>none
def ajH (t:Nat):Bool:=match t with
 |0=>true
 |1=>true
 |2=>true
 |3=>true
 | _=>false
def N4:Nat->Option Nat
 |0=>some 0
 |2=>some 1
 | _=>none
def ajI:(t:Nat)->rb t->rb t->Bool
 |0,a,c=>@BEq.beq Int _ a c
 |2,a,c=>@BEq.beq bH _ a c
 | _,_,_=>false
def N5:Nat->Option (Nat × Nat)
 |100=>some (2,1)
 | _=>none
theorem ajJ (c:Nat)(p:Nat × Nat)(h:N5 c=some p):rb c=List (rb p.1 × rb p.2):=by
 unfold N5 at h;split at h<;>cases h<;>rfl
abbrev bn:ib:=⟨rb,ajC,WL,ajD,ajE,ajF,ajH,N4,ajI,N5,ajJ⟩
end Go.Abs.hk
namespace Go.Abs.gK
open Go Go.Abs
structure mo {A:Type} [aM A] (S:A->Prop):Prop where
 bad:¬S aM.bad
 br:∀{i:Nat} {c:Bool} {x y:A},S (aM.br i c x y)->(c=true/\S x)\/(c=false/\S y)
 c2:∀{α:Type} {o:Option α} {f:α->A},S (aM.c2 o f)->∃x,o=some x/\S (f x)
theorem N6{R:Type}(r:R):mo (A:=Option R) (fun a=>a=some r) where
 bad:=fun h=>by cases h
 br:=fun h=>lD h
 c2:=fun h=>bind_some h
def ow.val{R:Type}:ow R->Option R
 | .leaf a=>some a
 | .br _ c t e=>bif c then t.val else e.val
 | .bad=>none
theorem ajK{R:Type}(r:R):mo (A:=ow R) (fun a=>a.val=some r) where
 bad:=fun h=>by cases h
 br:=fun h=>lD h
 c2:=fun h=>by cases h
section
variable{J:ib}
def p8 (J:ib)(b:Nat)(B:List Bool)(ρ fs:List V)(o:Nat)(m:List (Nat × cc)):ch J->Prop
 | .cells w cs=>∃a ws,ρ[o]? =some (.ptr a 0)/\m=[(a,.cells ws)]/\bm J B ρ fs cs ws/\(w=true->b<=a)
 | .row t s=>∃v,ρ[o]? =some v/\hf b (J.es t) (J.enc t) v s m
 | .mp k w x=>∃a,ρ[o]? =some (.map a)/\m=[(a,.map (gi (J.enc k) (J.enc w) x))]/\b<=a
def dT (s:bh J)(G:Nat->List (Nat × cc))(F:cN):cN:=s.mem.map (fun e=>G e.1)++F
structure b5 (J:ib) (b:Nat) (F:cN) (fs:List V) (s:bh J) (σ:bV) (H:Heap) (G:Nat->List (Nat × cc)) (ρ:List V):Prop where
 aB:ρ.length=s.aB
 vs:∀t v,bd s.vs t=some v->bU J s.aI ρ fs v (σ t)
 own:Own H (dT s G F)
 dk:(s.mem.map Prod.fst).Nodup
 lt:∀e∈s.mem,e.1<s.aB
 mem:∀o aP,bd s.mem o=some aP->p8 J b s.aI ρ fs o (G o) aP
 dv:∀i β,bd s.dv i=some β->s.aI[i]? =some β
structure iZ (s al:bh J):Prop where
 vs:al.vs=s.vs
 mem:al.mem=s.mem
 aB:al.aB=s.aB
 dw:al.dw=s.dw
 cB:al.cB=s.cB
 aI:s.aI <+: al.aI
 dv:(∀i β,bd s.dv i=some β->s.aI[i]? =some β)->∀i β,bd al.dv i=some β->al.aI[i]? =some β
theorem iZ.rfl{s:bh J}:iZ s s:=⟨Eq.refl _,Eq.refl _,Eq.refl _,Eq.refl _,Eq.refl _,ea,fun h=>h⟩
theorem iZ.trans{s al EB:bh J}(h:iZ s al)(k:iZ al EB):iZ s EB:=
 ⟨k.vs.trans h.vs,k.mem.trans h.mem,k.aB.trans h.aB,k.dw.trans h.dw,k.cB.trans h.cB,h.aI.trans k.aI,fun q=>k.dv (h.dv q)⟩
variable{b:Nat}{F:cN}{fs:List V}{s al:bh J}{σ bB:bV}{H:Heap}{G:Nat->List (Nat × cc)}{ρ:List V}{aw:k6 J}{call:cU}
theorem p8.mono{B sn:List Bool}{cy:List V}(dr:B <+: sn)(aL:ρ <+: cy){o:Nat}{m:List (Nat × cc)}:∀{aP:ch J},p8 J b B ρ fs o m aP->p8 J b sn cy fs o m aP
 | .cells w cs,⟨a,ws,h1,h2,ar,aQ⟩=>⟨a,ws,nh aL h1,h2,ar.mono dr aL,aQ⟩
 | .row t s,⟨v,h1,h2⟩=>⟨v,nh aL h1,h2⟩
 | .mp k w x,⟨a,h1,h2⟩=>⟨a,nh aL h1,h2⟩
theorem b5.dQ (R:b5 J b F fs s σ H G ρ)(k:iZ s al):b5 J b F fs al σ H G ρ where
 aB:=by rw[k.aB];exact R.aB
 vs:=fun t v h=>by rw[k.vs]at h;exact(R.vs t v h).mono k.aI ea
 own:=by have:=R.own;unfold dT at this⊢; rw[k.mem];exact this
 dk:=by rw[k.mem];exact R.dk
 lt:=by rw[k.mem,k.aB];exact R.lt
 mem:=fun o aP h=>by rw[k.mem]at h;exact(R.mem o aP h).mono k.aI ea
 dv:=k.dv R.dv
theorem auD{α:Type}{l:List (Nat × α)}{t:Nat}{a:α}(h:bd l t=some a):(t,a)∈l:=by
 induction l with
 |nil=>cases h
 |cons p l ih=>
  obtain⟨k,c⟩:=p;rw[fm]at h;split at h
  ·rename_i e;cases h;subst e;simp
  ·exact kQ _ (ih h)
theorem b5.at (R:b5 J b F fs s σ H G ρ){o:Nat}{aP:ch J}(h:bd s.mem o=some aP):∃k,(dT s G F)[k]? =some (G o)/\k<s.mem.length/\∃cW:k<s.mem.length,s.mem[k].1=o:=by
 obtain⟨k,cW,e⟩:=List.mem_iff_getElem.1 (auD h);refine⟨k,?_,cW,cW,by rw[e]⟩;unfold dT;rw[gE (by simpa using cW),jy,hX cW,e];rfl
theorem b5.cells (R:b5 J b F fs s σ H G ρ){o:Nat}{w:Bool}{cs:List (aJ J.ax)}(h:bd s.mem o=some (.cells w cs)):
  ∃a ws,ρ[o]? =some (.ptr a 0)/\G o=[(a,.cells ws)]/\(∀H',Own H' (dT s G F)->H'[a]? =some (.cells ws))/\bm J s.aI ρ fs cs ws/\(w=true->b<=a):=by
 obtain⟨a,ws,h1,h2,ar,aQ⟩:=R.mem o _ h;obtain⟨k,cW,-⟩:=R.at h;exact⟨a,ws,h1,h2,fun H' aA=>aA.get k (by rw[cW,h2]),ar,aQ⟩
mutual
theorem I2{B:List Bool}:∀v:V,bU J B ρ fs (Em v) v
 | .bool _=>.b0
 | .int _ _=>.int
 | .str _=>.str
 | .agg vs=>.agg (EC vs)
 | .cp| .emp| .list _ _| .aU _| .jb| .ptr _ _| .gF .. | .dn _ _| .cz .. | .iw| .map _| .jV| .fn _ _ _| .yield _| .ig| .iface _ _| .undef=>.k
theorem EC{B:List Bool}:∀vs:List V,bm J B ρ fs (Bp vs) vs
 |[]=>.nil
 |v::r=>.cons (I2 v) (EC r)
end
theorem zc{B:List Bool}{v:aJ J.ax}{w:V}{cs:List (aJ J.ax)}(h:q8 v=some cs)(ad:bU J B ρ fs v w):bm J B ρ fs cs (aE w):=by
 cases ad<;>simp only[q8]at h
 case agg h'=>cases h;exact h'
 case aU=>cases h
 case row=>cases h
 case iK=>cases h
 case fv=>cases h
 case kL=>cases h
 case k=>
  split at h
  ·cases h
  ·cases h
   cases w<;>first|exact .cons .k .nil|simp_all
 case sl=>cases h;rw[VT];exact .cons .sl .nil
 all_goals cases h
 ·exact .cons .int .nil
 ·exact .cons .b0 .nil
 ·rename_i h';exact .cons (.bo h') .nil
 ·exact .cons .str .nil
 ·rename_i h';exact .cons (.dn h') .nil
 ·rename_i h';exact .cons (.ptr h') .nil
 ·rename_i h';exact .cons (.fn h') .nil
theorem WM{B:List Bool}{v:aJ J.ax}{w:V}(h:ID v=true)(ad:bU J B ρ fs v w):ed w=true:=by
 cases ad<;>simp only[ID]at h<;>first|rfl|exact aho _ _ _|exact h|cases h
theorem N7{B:List Bool}:∀{cs:List (aJ J.ax)} {ws:List V},En cs=true->bm J B ρ fs cs ws->bS ws=true
 | _,_,_,.nil=>rfl
 | _,_,h,.cons h' r=>by
   simp only[En]at h;split at h
   ·rename_i e;simp only[bS,WM e h',N7 h r,zV]
   ·cases h
theorem WN (R:b5 J b F fs s σ H G ρ){o:Nat}{w:V}(h:vB s.mem o=true)(ad:bU J s.aI ρ fs (.row o) w):aE w=[w]/\ed w=true:=by
 unfold vB at h;split at h
 ·rename_i hm
  obtain⟨v,h1,h2⟩:=R.mem _ _ hm;cases ad with
  |row ar=>
   rw[h1]at ar;cases ar;exact⟨h2.cells,h2.ed⟩
 ·cases h
theorem ajL (R:b5 J b F fs s σ H G ρ){v:aJ J.ax}{w:V}{cs:List (aJ J.ax)}(h:NW s.mem v=some cs)(ad:bU J s.aI ρ fs v w):bm J s.aI ρ fs cs (aE w):=by
 unfold NW at h;split at h
 ·split at h
  ·rename_i e
   cases h;rw[(WN R e ad).1];exact .cons ad .nil
  ·cases h
 ·exact zc h ad
theorem WO (R:b5 J b F fs s σ H G ρ):∀{cs:List (aJ J.ax)} {ws:List V},IQ s.mem cs=true->bm J s.aI ρ fs cs ws->bS ws=true
 | _,_,_,.nil=>rfl
 | _,_,h,.cons (w:=w) h' r=>by
   unfold IQ at h;split at h
   ·rename_i e
    have:ed w=true:=by
     split at e
     ·exact(WN R e h').2
     ·exact WM e h'
    simp only[bS,this,WO R h r,zV]
   ·cases h
theorem ED{B:List Bool}{cs:List (aJ J.ax)}{ws:List V}{off:Nat}{sh:Option Nat}{v:aJ J.ax}(h:cut cs off sh=some v)(hc:bm J B ρ fs cs ws):∃w,fY ws off sh=some w/\bU J B ρ fs v w:=by
 cases sh with
 |none=>
  simp only[cut,vx]at h;exact hc.get h
 |some n=>
  simp only[cut]at h;split at h
  ·rename_i e
   cases h;refine⟨_,?_,.agg ((hc.drop off).take n)⟩;simp only[fY];rw[if_pos (by rw[<-hc.length];exact km e)]
  ·cases h
theorem I3{B:List Bool}:∀{xs:List (aJ J.ax)} {cR:List V},bm J B ρ fs xs cR->∀{cs:List (aJ J.ax)} {ws:List V} (o:Nat),bm J B ρ fs cs ws->bm J B ρ fs (tx cs o xs) (setCells ws o cR)
 | _,_,.nil,_,_,_,h=>h
 | _,_,.cons h' r,_,_,o,h=>I3 r (o+1) (h.set o h')
theorem db (R:b5 J b F fs s σ H G ρ)(b6:∀t v,bd aw t=some v->bU J s.aI ρ fs v (bB t)):∀{x:ag} {v:aJ J.ax},ae aw s x=some v->bU J s.aI ρ fs v (bN bB σ x)
 | .tmp t,_,h=>b6 t _ h
 | .var t,_,h=>R.vs t _ h
 | .const v,_,h=>by cases h;exact I2 v
 | .func i,_,h=>by cases h;exact .fn .nil
theorem vD (R:b5 J b F fs s σ H G ρ)(b6:∀t v,bd aw t=some v->bU J s.aI ρ fs v (bB t)):∀{xs:List ag} {vs:List (aJ J.ax)},vy aw s xs=some vs->bm J s.aI ρ fs vs (xs.map (bN bB σ))
 |[],_,h=>by cases h;exact .nil
 |x::r,_,h=>by
  simp only[vy]at h;split at h
  ·rename_i v e
   split at h
   ·rename_i l e2
    cases h;exact .cons (db R b6 e) (vD R b6 e2)
   ·cases h
  ·cases h
section
variable{A:Type}[aM A]{S:A->Prop}
theorem Bu (aC:mo S){v:aJ J.ax}{w:V}{mi ca:bh J->A}(h:S (split s v mi ca))(cW:∀i β,bd s.dv i=some β->s.aI[i]? =some β)(ad:bU J s.aI ρ fs v w):
  ∃β al,w=.bool β/\iZ s al/\al.aI=s.aI/\((β=true/\S (mi al))\/(β=false/\S (ca al))):=by
 cases ad<;>simp only[split]at h
 case b0 b=>cases b<;>exact⟨_,s,rfl,.rfl,rfl,by simpa using h⟩
 case bo i b neg hb=>
  split at h
  ·rename_i eL e
   have iA:=cW _ _ e;rw[hb]at iA;cases iA;refine⟨_,s,rfl,.rfl,rfl,?_⟩;cases b<;>cases neg<;>simpa using h
  ·rename_i e
   rw[vx,hb]at h
   have key:∀β,b=β->iZ s {s with dv:=(i,β)::s.dv}:=fun β oi=>⟨rfl,rfl,rfl,rfl,rfl,ea,fun q j ajM hj=>by
    rw[fm]at hj;split at hj
    ·rename_i e;cases hj;subst e;rw[<-oi];exact hb
    ·exact q j ajM hj⟩
   cases neg<;>simp only at h<;>rcases aC.br h with⟨hc,h2⟩|⟨hc,h2⟩<;>subst hc
   ·exact⟨_,_,rfl,key true rfl,rfl,.inl ⟨rfl,h2⟩⟩
   ·exact⟨_,_,rfl,key false rfl,rfl,.inr ⟨rfl,h2⟩⟩
   ·exact⟨_,_,rfl,key true rfl,rfl,.inr ⟨rfl,h2⟩⟩
   ·exact⟨_,_,rfl,key false rfl,rfl,.inl ⟨rfl,h2⟩⟩
 all_goals exact absurd h aC.bad
theorem Bv{v:aJ J.ax}{w:V}{c:Bool}(h:w9 s v=some c)(ad:bU J s.aI ρ fs v w):w=.bool c:=by
 cases ad<;>simp only[w9]at h
 case b0=>cases h;rfl
 case bo i b neg hb=>
  rw[vx,hb]at h;cases neg<;>cases h<;>simp
 all_goals cases h
theorem ajN (c:Bool):iZ s {s with aI:=s.aI++[c]}:=⟨rfl,rfl,rfl,rfl,rfl,hC _ _,fun q i β h=>nh (hC _ _) (q i β h)⟩
theorem I4 (l:List Bool):iZ s {s with aI:=s.aI++l}:=⟨rfl,rfl,rfl,rfl,rfl,hC _ _,fun q i β h=>nh (hC _ _) (q i β h)⟩
theorem WQ{c neg:Bool}{k:aJ J.ax->bh J->A}(h:S (name s c neg k)):∃v al,S (k v al)/\iZ s al/\bU J al.aI ρ fs v (.bool (c != neg)):=
 ⟨_,_,h,ajN c,.bo (by simp)⟩
theorem zd (a1:gC J){t:Nat}{x:J.ax t}{k:aJ J.ax->bh J->A}(h:S (elem t x s k)):∃v al,S (k v al)/\iZ s al/\bU J al.aI ρ fs v (J.enc t x):=
 ⟨_,_,h,I4 _,a1.k5 t x s.aI ρ fs⟩
end
end
end Go.Abs.gK
