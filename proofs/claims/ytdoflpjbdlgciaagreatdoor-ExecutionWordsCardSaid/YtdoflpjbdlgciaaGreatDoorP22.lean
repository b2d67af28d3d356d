/- Texts of this claim, joined and written short by a program. -/
import Derived.Test.YtdoflpjbdlgciaaGreatDoorP21
import Derived.Test.YtdoflpjbdlgciaaGreatDoorP19
import Derived.Test.YtdoflpjbdlgciaaGreatDoorP00
set_option linter.unusedVariables false
set_option linter.unusedSimpArgs false
set_option linter.unusedSectionVars false
namespace Go.Abs.hG
open Go Go.Abs
inductive l4 where
 |v (t:Nat)
 |f (ec:List Nat) (rt:Nat)
 deriving DecidableEq
section
variable (U:iE)
def dD:List Nat->Type
 |[]=>Unit
 |a::r=>match r with
  |[]=>U.ay a
  | _::_=>U.ay a × dD r
def aqD:l4->Type
 | .v t=>U.ay t
 | .f ec rt=>dD U ec->Option (U.ay rt)
def l5:List l4->Type
 |[]=>Unit
 |a::r=>aqD U a × l5 r
def Ad:List (List Nat)->Type
 |[]=>Unit
 |a::r=>match r with
  |[]=>dD U a
  | _::_=>bJ (dD U a) (Ad r)
structure bM where
 id:Nat
 caps:List Nat
 args:List l4
 res:List Nat
 fn:dD U caps->l5 U args->Option (dD U res)
structure GP where
 ec:List Nat
 rt:Nat
 f:dD U ec->Option (U.ay rt)
structure nT where
 T:List (bM U)
 fv:List (GP U)
 ty:List (Nat × Nat)
 wF:List (Nat × Nat × Nat)
end
section
variable{U:iE}{A:Type}[aS A]
def xU{a:Nat}:(r:List Nat)->U.ay a->dD U r->dD U (a::r)
 |[],x,_=>x
 | _::_,x,y=>(x,y)
def pt{a:Nat}:(r:List Nat)->dD U (a::r)->U.ay a
 |[],x=>x
 | _::_,x=>x.1
def xV{a:Nat}:(r:List Nat)->dD U (a::r)->dD U r
 |[],_=>()
 | _::_,x=>x.2
def Lz:(ec:List Nat)->dD U ec->l5 U (ec.map l4.v)
 |[],_=>()
 | _::r,x=>(pt r x,Lz r (xV r x))
def qZ (B:List Bool):(ts:List Nat)->List (aO U.ay)->Option (dD U ts)
 |[],[]=>some ()
 |t::ts,v::vs=>match U.iR t v B with
  |none=>none
  |some x=>match qZ B ts vs with
   |none=>none
   |some l=>some (xU ts x l)
 | _,_=>none
def Rg (m:List (Nat × cv U)):aO U.ay->Option (aO U.ay)
 | .ptr o 0=>match bw m o with
   |some (.cells _ [c])=>match c with
    | .agg _=>none
    |c=>match r0 c with
     |some _=>some c
     |none=>none
   |some (.cells _ cs)=>some (.agg cs)
   | _=>none
 | _=>none
def GQ:List (aO U.ay)->List Nat->Bool
 |[],_=>true
 | .ptr o _::r,l=>match mem o l with
   |true=>false
   |false=>GQ r (o::l)
 | _::_,_=>false
def Ae:List l4->Bool
 |[]=>true
 | .v _::r=>Ae r
 | .f .. ::_=>false
def GR (m:List (Nat × cv U)):List (aO U.ay)->Option (List (aO U.ay))
 |[]=>some []
 |v::r=>match Rg m v with
  |none=>none
  |some c=>match GR m r with
   |none=>none
   |some l=>some (c::l)
def wG:List (bM U)->Nat->Option (bM U)
 |[],_=>none
 |e::r,i=>match Nat.beq e.id i with
  |true=>some e
  |false=>wG r i
def Rh (b0:nT U)(s:bB U)(ec:List Nat)(rt:Nat):aO U.ay->Option (dD U ec->Option (U.ay rt))
 | .fv j=>match nth b0.fv j with
   |none=>none
   |some f=>if h:f.ec=ec/\f.rt=rt then some fun z=>h.2 ▸ f.f (h.1 ▸ z)else none
 | .fn i cs=>match wG b0.T i with
   |none=>none
   |some e=>match GR s.mem cs,GQ cs []with
    |some vs,true=>match qZ s.aJ e.caps vs with
     |none=>none
     |some c=>if h:e.args=ec.map l4.v/\e.res=[rt]then some fun z=>(congrArg (fun l=>Option (dD U l)) h.2).mp (e.fn c (h.1 ▸ Lz ec z))else none
    | _,_=>none
 | _=>none
def xW (b0:nT U)(s:bB U):(aU:List l4)->List (aO U.ay)->Option (l5 U aU)
 |[],[]=>some ()
 | .v t::aU,v::vs=>match U.iR t v s.aJ with
   |none=>none
   |some x=>match xW b0 s aU vs with
    |none=>none
    |some l=>some (x,l)
 | .f ec rt::aU,v::vs=>match Rh b0 s ec rt v with
   |none=>none
   |some x=>match xW b0 s aU vs with
    |none=>none
    |some l=>some (x,l)
 | _,_=>none
def elems:(ts:List Nat)->dD U ts->bB U->(List (aO U.ay)->bB U->A)->A
 |[],_,s,k=>k [] s
 |t::ts,x,s,k=>elem t (pt ts x) s fun v s=>elems ts (xV ts x) s fun vs s=>k (v::vs) s
def LA (ts:List Nat)(x:dD U ts)(s:bB U)(k:aO U.ay->bB U->A):A:=elems ts x s fun vs s=>match vs with
 |[v]=>k v s
 |vs=>k (.bd vs) s
def LB (b0:nT U)(s:bB U)(f:aO U.ay)(aU:List (aO U.ay))(k:aO U.ay->bB U->A):A:=match f with
 | .fv j=>match nth b0.fv j with
   |none=>aS.bad
   |some f=>match qZ s.aJ f.ec aU with
    |none=>aS.bad
    |some a=>aS.c2 (f.f a) fun r=>elem f.rt r s k
 | .fn i cs=>match wG b0.T i with
   |none=>aS.bad
   |some e=>match GR s.mem cs,GQ cs [],(match cs with|[]=>true| _=>Ae e.args)with
    |some vs,true,true=>match qZ s.aJ e.caps vs with
     |none=>aS.bad
     |some c=>match xW b0 s e.args aU with
      |none=>aS.bad
      |some a=>aS.c2 (e.fn c a) fun r=>LA e.res r s k
    | _,_,_=>aS.bad
 | _=>aS.bad
def l6 (o:Nat)(b:cv U):List (Nat × cv U)->List (Nat × cv U)
 |[]=>[]
 |(k,c)::r=>match Nat.beq k o with
  |true=>(k,b)::r
  |false=>(k,c)::l6 o b r
def marks (o f:Nat):Nat->List (Nat × Nat)->List (Nat × Nat)
 |0,l=>l
 |n+1,l=>(o,f+n)::marks o f n l
def kL (s:bB U)(b:cv U):bB U:={s with mem:=(s.aC,b)::s.mem,aC:=s.aC+1}
def r1 (o:Nat):List (Nat × cv U)->List (Nat × cv U)
 |[]=>[]
 |(k,c)::r=>match Nat.beq k o with
  |true=>r
  |false=>(k,c)::r1 o r
def j7 (o n:Nat)(b:cv U):List (Nat × cv U)->List (Nat × cv U)
 |[]=>[]
 |(k,c)::r=>match Nat.beq k o with
  |true=>(n,b)::r
  |false=>(k,c)::j7 o n b r
def um (f:List (Nat × cv U)->aO U.ay->Option (aO U.ay × List (Nat × cv U))):List (Nat × cv U)->List (aO U.ay)->Option (List (aO U.ay) × List (Nat × cv U))
 |m,[]=>some ([],m)
 |m,v::r=>match f m v with
  |none=>none
  |some (v',m)=>match um f m r with
   |none=>none
   |some (l,m)=>some (v'::l,m)
def qU:Nat->List (Nat × cv U)->aO U.ay->Option (aO U.ay × List (Nat × cv U))
 |0,_,_=>none
 |n+1,m,v=>match v with
  | .row o=>match bw m o with
    |some (.row t x)=>some (.sl t x,r1 o m)
    | _=>none
  | .agg vs=>match um (qU n) m vs with
    |some (l,m)=>some (.agg l,m)
    |none=>none
  | .bd vs=>match um (qU n) m vs with
    |some (l,m)=>some (.bd l,m)
    |none=>none
  | .int k i=>some (.int k i,m)
  | .cy b=>some (.cy b,m)
  | .bo i b=>some (.bo i b,m)
  | .str b=>some (.str b,m)
  | .sl t x=>some (.sl t x,m)
  | .k v=>match bQ v with
    |true=>some (.k v,m)
    |false=>none
  | _=>none
mutual
def aqE:aO U.ay->Bool
 | .row _=>true
 | .agg vs=>LC vs
 | .bd vs=>LC vs
 | _=>false
def LC:List (aO U.ay)->Bool
 |[]=>false
 |v::r=>match aqE v with
  |true=>true
  |false=>LC r
end
def GS:List Nat->Bool
 |[]=>true
 |t::r=>match U.bb t with
  |true=>GS r
  |false=>false
def Ri (b0:nT U)(s:bB U)(f:aO U.ay)(aU:List (aO U.ay))(k:aO U.ay->bB U->A):A:=match f with
 | .fn i []=>match wG b0.T i,um (qU 16) s.mem aU with
   |some e,some (sk,_)=>match qZ s.aJ e.caps [],xW b0 s e.args sk,Ae e.args with
    |some c,some a,true=>aS.c2 (e.fn c a) fun r=>LA e.res r s fun v s=>match GS (U:=U) e.res with
     |true=>k v s
     |false=>match v with
      | .sl _ x=>aS.br s.aJ.length x.isNil (k (.k .aY) s) aS.bad
      | _=>aS.bad
    | _,_,_=>aS.bad
   | _,_=>aS.bad
 | _=>aS.bad
def gone (m':List (Nat × cv U)):List (Nat × cv U)->List (Nat × Nat)
 |[]=>[]
 |(o,_)::r=>match bw m' o with
  |some _=>gone m' r
  |none=>(o,0)::gone m' r
def C4 (m':List (Nat × cv U)):List (Nat × cv U)->Bool
 |[]=>true
 |(o,a1)::r=>match a1 with
  | .cells .. =>match bw m' o with
    |some _=>C4 m' r
    |none=>false
  | _=>C4 m' r
def Rj (b0:nT U)(s:bB U)(f:aO U.ay)(aU:List (aO U.ay))(k:aO U.ay->bB U->A):A:=match f with
 | .fn i []=>match wG b0.T i,um (qU 16) s.mem aU with
   |some e,some (sk,m')=>match qZ s.aJ e.caps [],xW b0 s e.args sk,Ae e.args,C4 m' s.mem with
    |some c,some a,true,true=>aS.c2 (e.fn c a) fun r=>LA e.res r s fun v ar=>k v {ar with mem:=m',cN:=gone m' s.mem++ar.cN}
    | _,_,_,_=>aS.bad
   | _,_=>aS.bad
 | _=>aS.bad
def C5 (s:bB U)(es bytes t:Nat)(x:ak (U.ay t))(o:Option Nat)(y:aO U.ay)(k:aO U.ay->bB U->Bool->A):A:=match Nat.beq (U.es t) es,e7 t y with
 |true,some y=>aS.c2 (jz bytes x y) fun z=>match o with
  |some o=>k (.row s.aC) {s with mem:=j7 o s.aC (.row t z) s.mem,aC:=s.aC+1,cN:=(o,0)::s.cN} true
  |none=>k (.row s.aC) (kL s (.row t z)) true
 | _,_=>aS.bad
def Rk:aj->aj->Bool
 | .tmp a,.tmp b=>Nat.beq a b
 | .var a,.var b=>Nat.beq a b
 | .const (.int _ a),.const (.int _ b)=>decide (a=b)
 | _,_=>false
def Rl:aO U.ay->Bool
 | .int .. | .cy _| .bo .. | .str _| .sl .. | .ptr .. | .fn .. =>true
 | .k v=>plainCell v
 | _=>false
def LD:List (aO U.ay)->Bool
 |[]=>true
 |v::r=>match Rl v with
  |true=>LD r
  |false=>false
def Rm (w:aO U.ay)(f:Nat)(vs:List (aO U.ay)):Option (aO U.ay):=match w with
 | .agg cs=>match Nat.ble (f+vs.length) cs.length with
   |true=>some (.agg (uh cs f vs))
   |false=>none
 | .lb| .row _| .fv _| .k _| .jk .. =>none
 | _=>match f,vs with
   |0,[x]=>some x
   | _,_=>none
def wH (m:List (Nat × cv U))(o:Nat):Bool:=match bw m o with
 |some (.row ..)=>true
 | _=>false
def Rn (m:List (Nat × cv U)):aO U.ay->Option (List (aO U.ay))
 | .row o=>match wH m o with
   |true=>some [.row o]
   |false=>none
 |v=>r0 v
def LF (m:List (Nat × cv U)):List (aO U.ay)->Bool
 |[]=>true
 |v::r=>match(match v with| .row o=>wH m o|v=>Lu v)with
  |true=>LF m r
  |false=>false
def Ro (aq:kK U)(s:bB U)(len:Nat)(parts:List (Nat × aj))(jM:Bool):Option (Nat × aj):=match len,parts,jM with
 |1,[(0,x)],true=>match ai aq s x with
  |some (.row o)=>some (o,x)
  | _=>none
 | _,_,_=>none
def oper (b0:nT U)(aq:kK U)(s:bB U)(d:Option (Nat × Bool))(k:aO U.ay->bB U->Bool->A):cS->A
 | .alloc z=>k (.ptr s.aC 0) (kL s (.cells true (C3 z))) true
 | .box x=>match ai aq s x with
   |none=>aS.bad
   |some v=>match r0 v with
    |none=>aS.bad
    |some cs=>match GM cs with
     |true=>k (.ptr s.aC 0) (kL s (.cells true cs)) true
     |false=>aS.bad
 | .store n x y=>match ai aq s x,ai aq s y with
   |some (.ptr o f),some v=>match bw s.mem o,Rn s.mem v with
    |some (.cells true cs),some vs=>match Nat.beq vs.length n,Nat.ble (f+n) cs.length,LF s.mem vs with
     |true,true,true=>k (.k .undef) {s with mem:=l6 o (.cells true (uh cs f vs)) s.mem,cN:=marks o f vs.length s.cN} true
     | _,_,_=>aS.bad
    | _,_=>aS.bad
   |some (.jk o i f),some v=>match bw s.mem o,r0 v with
    |some (.row t a),some vs=>match Nat.beq vs.length n,LD vs with
     |true,true=>aS.c2 (aP a.l i) fun e=>elem t e s fun w s=>match Rm w f vs with
      |none=>aS.bad
      |some w=>match U.iR t w s.aJ with
       |none=>aS.bad
       |some e'=>k (.k .undef) {s with mem:=l6 o (.row t (pf a i e')) s.mem,cN:=(o,0)::s.cN} true
     | _,_=>aS.bad
    | _,_=>aS.bad
   | _,_=>aS.bad
 | .append es bytes a b=>match ai aq s a,ai aq s b with
   |some (.row o),some y=>match bw s.mem o with
    |some (.row t x)=>C5 s es bytes t x (some o) y k
    | _=>aS.bad
   |some x,some (.sl t y)=>match uk x with
    |some (.k .aY)=>C5 s es bytes t .nil none (.sl t y) k
    |some (.k .emp)=>C5 s es bytes t .emp none (.sl t y) k
    | _=>aS.bad
   | _,_=>aS.bad
 | .mkSlice es z bytes l c=>match d with
   |some (q,_)=>match bw b0.ty q,Rk l c,ai aq s l with
    |some t,true,some (.int _ n)=>match Nat.beq (U.es t) es,U.iR t (aci z) []with
     |true,some e=>aS.c2 (xN bytes e n) fun x=>k (.row s.aC) (kL s (.row t x)) true
     | _,_=>aS.bad
    | _,_,_=>aS.bad
   |none=>aS.bad
 | .mkMap=>match d with
   |some (q,_)=>match bw b0.ty q with
    |some c=>match U.mp c with
     |some p=>k (.row s.aC) (kL s (.mp p.1 p.2 [])) true
     |none=>aS.bad
    |none=>aS.bad
   |none=>aS.bad
 | .qt kind x i y=>match ai aq s x,ai aq s i,ai aq s y with
   |some (.row o),some v,some w=>match bw s.mem o with
    |some (.mp eI j6 m)=>match U.iR eI v s.aJ,U.iR j6 w s.aJ,kindOf (U:=U) eI kind with
     |some x,some y,true=>k (.k .undef) {s with mem:=l6 o (.mp eI j6 (aqC eI j6 m x y)) s.mem,cN:=(o,0)::s.cN} true
     | _,_,_=>aS.bad
    | _=>aS.bad
   | _,_,_=>aS.bad
 | .call false f aU=>match ai aq s f,wE aq s aU with
   |some f,some aU=>match LC aU with
    |true=>match(match d with|some (q,_)=>bw b0.ty q|none=>none)with
     |some _=>Rj b0 s f aU fun v s=>k v s true
     |none=>Ri b0 s f aU fun v s=>k v s false
    |false=>LB b0 s f aU fun v s=>k v s false
   | _,_=>aS.bad
 | .call true f aU=>match ai aq s f,wE aq s aU with
   |some (.fn i []),some [v]=>match bw b0.wF i with
    |some p=>match e7 p.1 v with
     |some x=>aS.c2 (Ke p.2 x) fun z=>k (.row s.aC) (kL s (.row p.1 z)) true
     |none=>aS.bad
    |none=>aS.bad
   | _,_=>aS.bad
 | .lit es z len parts jM=>match Ro aq s len parts jM with
   |some (o,_)=>match d with
    |some (q,_)=>match bw b0.ty q,bw s.mem o with
     |some t,some (.row e9 x)=>match U.iR t (.sl e9 x) s.aJ,Nat.beq (U.es t) es with
      |some e,true=>k (.sl t (.mk [e])) {s with mem:=r1 o s.mem,cN:=(o,0)::s.cN} true
      | _,_=>aS.bad
     | _,_=>aS.bad
    |none=>aS.bad
   |none=>GO aq s (match d with|some (t,_)=>bw b0.ty t|none=>none) (fun v s=>k v s false) (.lit es z len parts jM)
 |op=>GO aq s (match d with|some (t,_)=>bw b0.ty t|none=>none) (fun v s=>k v s false) op
def put (aq:kK U)(s:bB U)(v:aO U.ay):Option (Nat × Bool)->(kK U × bB U)
 |none=>(aq,s)
 |some (t,false)=>((t,v)::aq,s)
 |some (t,true)=>(aq,{s with vs:=(t,v)::s.vs,dS:=t::s.dS})
def so (b0:nT U):List bP->kK U->bB U->List Bool->(bB U->List Bool->A)->A
 |[],aq,s,wr,k=>k s wr.reverse
 |o::r,aq,s,wr,k=>
  let go:=fun s=>oper b0 aq s o.dst (fun v s m=>match put aq s v o.dst with|(aq,s)=>so b0 r aq s (m::wr) k) o.op;let skip:=fun s=>match put aq s (.bd []) o.dst with|(aq,s)=>so b0 r aq s (false::wr) k
  match o.guard with
  |none=>go s
  |some (x,w)=>match ai aq s x with
   |none=>aS.bad
   |some v=>match v with
    | .bd []=>skip s
    |v=>match w with
     |true=>split s v go skip
     |false=>split s v skip go
def Rp (b0:nT U)(aq:kK U)(s:bB U)(d:Option (Nat × Bool))(k:aO U.ay->bB U->A):cS->A
 | .call false f aU=>match ai aq s f,wE aq s aU with
   |some f,some aU=>LB b0 s f aU k
   | _,_=>aS.bad
 |op=>GO aq s (match d with|some (t,_)=>bw b0.ty t|none=>none) k op
def wI (b0:nT U):List bP->kK U->bB U->(kK U->bB U->A)->A
 |[],aq,s,k=>k aq s
 |o::r,aq,s,k=>
  let fin:=fun v s=>match put aq s v o.dst with|(aq,s)=>wI b0 r aq s k
  let go:=fun s=>Rp b0 aq s o.dst fin o.op
  match o.guard with
  |none=>go s
  |some (x,w)=>match ai aq s x with
   |none=>aS.bad
   |some v=>match v with
    | .bd []=>fin (.bd []) s
    |v=>match w with
     |true=>split s v go (fin (.bd []))
     |false=>split s v (fin (.bd [])) go
inductive Loc where
 |s (t:Nat)
 |m (o j:Nat)
inductive aqF (U:iE) where
 |p (t:Nat)
 |c (v:aO U.ay)
 |r (t:Nat)
 |d
abbrev nq (U:iE):=List (Loc × aqF U)
def iS:nq U->List Nat
 |[]=>[]
 |(_,.p t)::r=>t::iS r
 |(_,.c _)::r=>iS r
 |(_,.r t)::r=>t::iS r
 |(_,.d)::r=>iS r
def at_ (s:bB U):Loc->Option (aO U.ay)
 | .s t=>bw s.vs t
 | .m o j=>match bw s.mem o with
   |some (.cells _ cs)=>nth cs j
   | _=>none
mutual
def same:aO U.ay->aO U.ay->Bool
 | .cy a,.cy b=>match a,b with
   |true,true=>true
   |false,false=>true
   | _,_=>false
 | .bo i n,.bo j m=>match Nat.beq i j,n,m with
   |true,true,true=>true
   |true,false,false=>true
   | _,_,_=>false
 | .int k a,.int bE b=>match decide (k=bE)with
   |true=>decide (a=b)
   |false=>false
 | .k v,.k w=>ek v w
 | .ptr o f,.ptr o' mg=>match Nat.beq o o' with
   |true=>Nat.beq f mg
   |false=>false
 | .fv j,.fv vt=>Nat.beq j vt
 | .fn i cs,.fn yB cs'=>match Nat.beq i yB with
   |true=>Af cs cs'
   |false=>false
 | .agg cs,.agg cs'=>Af cs cs'
 | .str a,.str b=>decide (a=b)
 | _,_=>false
def Af:List (aO U.ay)->List (aO U.ay)->Bool
 |[],[]=>true
 |a::r,b::s=>match same a b with
  |true=>Af r s
  |false=>false
 | _,_=>false
end
mutual
def wf (n m:Nat):aO U.ay->Bool
 | .bo i _=>Nat.blt i n
 | .ptr o _=>Nat.blt o m
 | .row o=>Nat.blt o m
 | .jk o _ _=>Nat.blt o m
 | .agg vs=>Ag n m vs
 | .bd vs=>Ag n m vs
 | .dW vs _=>Ag n m vs
 | .fn _ cs=>Ag n m cs
 | _=>true
def Ag (n m:Nat):List (aO U.ay)->Bool
 |[]=>true
 |v::r=>match wf n m v with
  |true=>Ag n m r
  |false=>false
end
def q0 (o j:Nat):List (Nat × Nat)->Bool
 |[]=>false
 |(a,b)::r=>match Nat.beq a o,Nat.beq b j with
  |true,true=>true
  | _,_=>q0 o j r
def Rq (c eI j6:Nat)(x:List (U.ay eI × U.ay j6)):Option (U.ay c):=match h:U.mp c with
 |none=>none
 |some p=>if e:p=(eI,j6)then some ((U.acg c (eI,j6) (h.trans (congrArg some e))).symm ▸ x)else none
def LG (c:Nat)(v:aO U.ay):Option (U.ay c):=match U.mp c with
 |some _=>none
 |none=>U.iR c v []
def rowAt (c:Nat)(x:U.ay c):Option (cv U):=match h:U.mp c with
 |some p=>some (.mp p.1 p.2 (U.acg c p h ▸ x))
 |none=>match U.lz c x 0 with
  | .sl t y=>some (.row t y)
  | _=>none
def oG (n m:Nat)(M:List (Nat × Nat))(s:bB U)(u:List Nat):(sh:nq U)->Option (dD U (iS sh))
 |[]=>some ()
 |(l,.p t)::r=>match at_ s l with
  |none=>none
  |some v=>match U.iR t v s.aJ with
   |none=>none
   |some x=>match oG n m M s u r with
    |none=>none
    |some y=>some (xU (iS r) x y)
 |(l,.c v)::r=>match at_ s l with
  |none=>none
  |some w=>match same w v,wf n m v with
   |true,true=>oG n m M s u r
   | _,_=>none
 |(_,.d)::r=>oG n m M s u r
 |(l,.r c)::r=>match at_ s l with
  |none=>none
  |some v=>match v with
   | .row o=>match bw s.mem o,mem o u,(match Nat.ble m o with|true=>true|false=>q0 o 0 M)with
     |some (.row t x),false,true=>match LG c (.sl t x)with
      |none=>none
      |some x=>match oG n m M s (o::u) r with
       |none=>none
       |some y=>some (xU (iS r) x y)
     |some (.mp eI j6 x),false,true=>match Rq c eI j6 x with
      |none=>none
      |some x=>match oG n m M s (o::u) r with
       |none=>none
       |some y=>some (xU (iS r) x y)
     | _,_,_=>none
   |v=>match uk v with
    |none=>none
    |some v=>match LG c v with
     |none=>none
     |some x=>match oG n m M s u r with
      |none=>none
      |some y=>some (xU (iS r) x y)
def kM (s:bB U)(l:Loc)(v:aO U.ay):bB U:=match l with
 | .s t=>{s with vs:=(t,v)::s.vs}
 | .m o j=>match bw s.mem o with
   |some (.cells w cs)=>{s with mem:=l6 o (.cells w (cs.set j v)) s.mem}
   | _=>s
def q2:(sh:nq U)->dD U (iS sh)->bB U->bB U
 |[],_,s=>s
 |(l,.p t)::r,x,s=>q2 r (xV (iS r) x) (kM {s with aJ:=s.aJ++U.xS t (pt (iS r) x)} l (U.lz t (pt (iS r) x) s.aJ.length))
 |(l,.c v)::r,x,s=>q2 r x (kM s l v)
 |(_,.d)::r,x,s=>q2 r x s
 |(l,.r c)::r,x,s=>q2 r (xV (iS r) x) (match rowAt c (pt (iS r) x)with
  |some a1=>kM (kL s a1) l (.row s.aC)
  |none=>s)
def ig:nq U->List (Nat × Nat)
 |[]=>[]
 |(.m o j,_)::r=>(o,j)::ig r
 | _::r=>ig r
def r2 (o:Nat)(M:List (Nat × Nat)):Nat->List (aO U.ay)->List (aO U.ay)
 | _,[]=>[]
 |j,c::r=>(match q0 o j M with
  |true=>.lb
  |false=>c)::r2 o M (j+1) r
def q3 (M:List (Nat × Nat)):List (Nat × cv U)->List (Nat × cv U)
 |[]=>[]
 |(o,b)::r=>match b with
  | .cells w cs=>(o,.cells w (r2 o M 0 cs))::q3 M r
  |b=>match q0 o 0 M with
   |true=>q3 M r
   |false=>(o,b)::q3 M r
def blank (W:List Nat)(M:List (Nat × Nat))(s:bB U):bB U:={s with vs:=(W.map fun t=>(t,.lb))++s.vs,mem:=q3 M s.mem}
def fU:nq U->List Nat
 |[]=>[]
 |(.s t,_)::r=>t::fU r
 | _::r=>fU r
def enter (W:List Nat)(M:List (Nat × Nat))(sh:nq U)(x:dD U (iS sh))(s:bB U):bB U:=
 {q2 sh x (blank (fU sh++W) (M++ig sh) s)with ed:=[],dS:=fU sh++(W++s.dS),cN:=M++(ig sh++s.cN)}
def GU (W:List Nat):List Nat->Bool
 |[]=>true
 |t::r=>match mem t W with
  |true=>GU W r
  |false=>false
def GV (n:Nat)(M:List (Nat × Nat)):List (Nat × Nat)->Bool
 |[]=>true
 |(o,c)::r=>match Nat.ble n o with
  |true=>GV n M r
  |false=>match q0 o c M with
   |true=>GV n M r
   |false=>false
def C6 (n m:Nat)(W:List Nat)(M:List (Nat × Nat))(sh:nq U)(s:bB U):Option (dD U (iS sh)):=match GU W s.dS with
 |false=>none
 |true=>match GV m (M++ig sh) s.cN with
  |true=>oG n m (M++ig sh) s [] sh
  |false=>none
abbrev xX (U:iE):=List (X × nq U)
def Ah:xX U->List (List Nat)
 |[]=>[]
 |(_,sh)::r=>iS sh::Ah r
def LH:X->X->Bool
 | .normal,.normal=>true
 | .ret,.ret=>true
 | .exit i,.exit j=>Nat.beq i j
 | _,_=>false
def Ai (n m:Nat)(W:List Nat)(M:List (Nat × Nat))(x:X)(s:bB U):(os:xX U)->Option (Ad U (Ah os))
 |[]=>none
 |(gx,sh)::r=>match r with
  |[]=>match LH x gx with
   |true=>C6 n m W M sh s
   |false=>none
  |q::r=>match LH x gx with
   |true=>match C6 n m W M sh s with
    |some y=>some (bJ.go y)
    |none=>none
   |false=>match Ai n m W M x s (q::r)with
    |some y=>some (bJ.ret y)
    |none=>none
def leave (W:List Nat)(M:List (Nat × Nat))(s:bB U)(k:X->bB U->A):(os:xX U)->Ad U (Ah os)->A
 |[],_=>aS.bad
 |(x,sh)::r,o=>match r,o with
  |[],o=>k x (enter W M sh o s)
  |q::r,o=>match o with
   | .go y=>k x (enter W M sh y s)
   | .ret y=>leave W M s k (q::r) y
inductive kp (U:iE) where
 |o
 |lt
 |md (n:Nat)
 |two (a b:kp U)
 |pc (os:xX U) (a b:kp U)
 |pu (sl:List Nat) (b:kp U)
 |c8 (hd:nq U) (os:xX U) (a:kp U)
 |pl (a b:kp U)
def kp.l:kp U->kp U
 | .two a _=>a
 | _=>.o
def kp.r:kp U->kp U
 | .two _ b=>b
 | _=>.o
def pw:List bP->List Nat
 |[]=>[]
 |o::r=>match o.dst with
  |some (t,true)=>t::pw r
  | _=>pw r
def aqG (t:Nat)(l:List Nat):List Nat:=match mem t l with
 |true=>l
 |false=>t::l
def LI:List Nat->List Nat->List Nat
 |[],l=>l
 |t::r,l=>LI r (aqG t l)
def kq:b8->List Nat
 | .region ops _=>LI (pw ops) []
 | .yA ops _ _=>pw ops
 | .seq a b=>LI (kq a) (kq b)
 | .cond _ a b=>LI (kq a) (kq b)
 | .block _ a=>kq a
 | .loop a=>kq a
 | _=>[]
inductive wJ where
 |lit (b:Bool)
 |nm (i:Nat) (neg:Bool) (b:Bool)
 |tm (b:Bool)
def wJ.val:wJ->Bool
 | .lit b=>b
 | .nm _ _ b=>b
 | .tm b=>b
def GW (c:Bool)(x y:wJ):wJ:=match x,y with
 | .nm i n a,.nm j m b=>match Nat.beq i j,n,m with
   |true,true,true=>.nm i n (bif c then a else b)
   |true,false,false=>.nm i n (bif c then a else b)
   | _,_,_=>.tm (bif c then a else b)
 | .lit true,.lit true=>.lit true
 | .lit false,.lit false=>.lit false
 | .lit true,.lit false=>.tm c
 |x,.lit false=>.tm (c&&x.val)
 | .lit true,y=>.tm (c||y.val)
 |x,y=>.tm (bif c then x.val else y.val)
inductive acj (U:iE) where
 |v (v:aO U.ay)
 |b (b:wJ)
 |bad
def mx (l:Loc):pr (bB U)->acj U
 | .bad=>.bad
 | .leaf s=>match at_ s l with
   |none=>.bad
   |some v=>match v with
    | .cy b=>.b (.lit b)
    | .bo i n=>match xT s (.bo i n)with
      |some b=>.b (.nm i n b)
      |none=>.bad
    |v=>.v v
 | .br _ c t e=>match mx l t,mx l e with
   | .b x,.b y=>.b (GW c x y)
   | .v (.int k a),.v (.int bE b)=>match decide (k=bE)with
     |true=>.v (.int k (bif c then a else b))
     |false=>.bad
   | .v (.str a),.v (.str b)=>.v (.str (bif c then a else b))
   | .v v,.v w=>match same v w with
     |true=>.v w
     |false=>.bad
   | _,_=>.bad
def uo (n m:Nat)(p:pr (bB U)):List Nat->bB U->(bB U->A)->A
 |[],s,k=>k s
 |t::r,s,k=>match mx (.s t) p with
  | .v v=>match wf n m v with
    |true=>uo n m p r {s with vs:=(t,v)::s.vs} k
    |false=>aS.bad
  | .b x=>match x with
    | .lit b=>uo n m p r {s with vs:=(t,.cy b)::s.vs} k
    | .nm i neg b=>match Nat.blt i n with
      |true=>uo n m p r {s with vs:=(t,.bo i neg)::s.vs} k
      |false=>uo n m p r {s with vs:=(t,.bo s.aJ.length false)::s.vs,aJ:=s.aJ++[b]} k
    | .tm b=>uo n m p r {s with vs:=(t,.bo s.aJ.length false)::s.vs,aJ:=s.aJ++[b]} k
  | .bad=>aS.bad
def C7 (W:List Nat):pr (bB U)->Bool
 | .bad=>false
 | .leaf s=>match GU W s.dS,s.cN with
   |true,[]=>true
   | _,_=>false
 | .br _ _ t e=>match C7 W t with
   |true=>C7 W e
   |false=>false
def fresh (s:bB U):bB U:={s with ed:=[],dS:=[],cN:=[]}
def LJ (eB:Option (List Nat))(ops:List bP)(wr:List Bool)(a:A):A:=match eB with
 |none=>a
 |some eB=>match rp eB ops wr with
  |true=>a
  |false=>aS.bad
def LK (n:Nat):List (Nat × cv U)->Bool
 |[]=>true
 |e::r=>match Nat.ble n e.1 with
  |true=>LK n r
  |false=>false
def Rr (eB:List Nat)(ops:List bP)(wr:List Bool)(n:Nat)(m:List (Nat × cv U))(a:A):A:=match xj eB ops wr,LK n m with
 |true,true=>a
 | _,_=>aS.bad
def xY (b0:nT U):List bP->kK U->bB U->List (Nat × cv U)->List Bool->(kK U->bB U->List (Nat × cv U)->List Bool->A)->A
 |[],aq,s,p,w,k=>k aq s p w
 |o::r,aq,s,p,w,k=>match o with
  |⟨d,.call true f aU,none⟩=>match ai aq s f,wE aq s aU with
   |some (.fn i []),some [v]=>match bw b0.wF i with
    |some q=>match e7 q.1 v with
     |some x=>aS.c2 (Ke q.2 x) fun z=>match put aq {s with aC:=s.aC+1} (.row s.aC) d with
      |(aq,s1)=>xY b0 r aq s1 ((s.aC,.row q.1 z)::p) (w++[true]) k
     |none=>aS.bad
    |none=>aS.bad
   | _,_=>aS.bad
  |⟨d,.append es bytes a b,none⟩=>match ai aq s a,ai aq s b with
   |some (.row o),some y=>match bw p o with
    |some (.row t x)=>match Nat.beq (U.es t) es,e7 t y with
     |true,some y=>aS.c2 (jz bytes x y) fun z=>match put aq {s with aC:=s.aC+1} (.row s.aC) d with
      |(aq,s1)=>xY b0 r aq s1 (j7 o s.aC (.row t z) p) (w++[true]) k
     | _,_=>aS.bad
    | _=>aS.bad
   |some x,some (.sl t y)=>match Nat.beq (U.es t) es,uk x with
    |true,some (.k .emp)=>aS.c2 (jz bytes .emp y) fun z=>match put aq {s with aC:=s.aC+1} (.row s.aC) d with
     |(aq,s1)=>xY b0 r aq s1 ((s.aC,.row t z)::p) (w++[true]) k
    | _,_=>aS.bad
   | _,_=>aS.bad
  |o=>wI b0 [o] aq s fun aq s=>xY b0 r aq s p (w++[false]) k
def ack (b0:nT U)(eB:List Nat)(ops:List bP)(n:Nat)(s:bB U)(k:bB U->A):A:=
 xY b0 (ops.take n) [] s [] [] fun aq s p w=>so b0 (ops.drop n) aq {s with mem:=p++s.mem} w.reverse fun ar wr=>match CZ eB ops w wr with
  |true=>k ar
  |false=>aS.bad
def acm (W:List Nat)(s:bB U)(sl:List Nat)(p:pr (bB U))(k:bB U->A):A:=match C7 W p with
 |true=>uo s.aJ.length s.aC p sl {blank W [] s with dS:=sl++(W++s.dS)} k
 |false=>aS.bad
noncomputable def LL (f:kp U->{A:Type}->[aS A]->bB U->(X->bB U->A)->A)(W:List Nat)(hd:nq U)(os:xX U)(x:kp U)(s:bB U)(k:X->bB U->A):A:=match oG s.aJ.length s.aC (ig hd) s [] hd with
 |none=>aS.bad
 |some uq=>aS.c2 (bO (fun st=>f x (A:=Option (cE (dD U (iS hd)) (Ad U (Ah os)))) (fresh (enter W [] hd st s)) fun x ar=>match x with
   | .normal=>match C6 s.aJ.length s.aC W [] hd ar with
     |some y=>some (.next y)
     |none=>none
   |x=>match Ai s.aJ.length s.aC (fU hd++W) (ig hd) x ar os with
    |some y=>some (.out y)
    |none=>none) uq) fun o=>
  leave (fU hd++W) (ig hd) s k os o
noncomputable def kN (b0:nT U):b8->kp U->{A:Type}->[aS A]->bB U->(X->bB U->A)->A
 | .skip,_,_,_,s,k=>k .normal s
 | .ret,_,_,_,s,k=>k .ret s
 | .exit i,_,_,_,s,k=>k (.exit i) s
 | .region ops eB,an,_,_,s,k=>match an,eB with
   | .lt,some eB=>wI b0 (ops.take (kV ops)) [] s fun aq s=>so b0 (ops.drop (kV ops)) aq {s with mem:=[]} (List.replicate (kV ops) false) fun ar wr=>Rr eB ops wr s.aC ar.mem (k .normal {ar with mem:=ar.mem++s.mem})
   | .md n,some eB=>ack b0 eB ops n s fun s=>k .normal s
   | _,eB=>so b0 ops [] s [] fun s wr=>LJ eB ops wr (k .normal s)
 | .seq a b,an,_,_,s,k=>match an with
   | .pc os x y=>aS.c2 (kN b0 a x (A:=Option (Ad U (Ah os))) (fresh s) fun x ar=>Ai s.aJ.length s.aC (kq a) [] x ar os) fun o=>
     leave (kq a) [] s (fun x ar=>match x with
      | .normal=>kN b0 b y ar k
      |x=>k x ar) os o
   | .pu sl y=>match a with
     | .region ops eB=>acm (pw ops) s sl (so b0 ops [] {s with dS:=[],cN:=[]} [] fun s wr=>LJ eB ops wr (pr.leaf s)) fun ar=>kN b0 b y ar k
     | _=>aS.bad
   |an=>kN b0 a an.l s fun x s=>match x with
    | .normal=>kN b0 b an.r s k
    |x=>k x s
 | .cond c a b,an,_,_,s,k=>match ai [] s c with
   |none=>aS.bad
   |some v=>split s v (fun s=>kN b0 a an.l s k) (fun s=>kN b0 b an.r s k)
 | .block id a,an,_,_,s,k=>kN b0 a an s fun x s=>k (Cm id x) s
 | .loop a,an,_,_,s,k=>match an with
   | .c8 hd os x=>LL (fun an {_:Type} [aS _] s k=>kN b0 a an s k) (kq a) hd os x s k
   | .pl x (.c8 hd os y)=>kN b0 a x s fun e ar=>match e with
     | .normal=>LL (fun an {_:Type} [aS _] s k=>kN b0 a an s k) (kq a) hd os y ar k
     |e=>k e ar
   | _=>aS.bad
 | _,_,_,_,_,_=>aS.bad
def Aj:(aU:List l4)->l5 U aU->Nat->bB U->List (GP U)->bB U × List (GP U)
 |[],_,_,s,f=>(s,f)
 | .v t::r,x,j,s,f=>Aj r x.2 (j+1) {s with vs:=(j,U.lz t x.1 s.aJ.length)::s.vs,aJ:=s.aJ++U.xS t x.1} f
 | .f ec rt::r,x,j,s,f=>Aj r x.2 (j+1) {s with vs:=(j,.fv f.length)::s.vs} (f++[⟨ec,rt,x.1⟩])
def LM:(cs:List Nat)->dD U cs->Nat->bB U->Option (bB U)
 |[],_,_,s=>some s
 |t::r,x,j,s=>match r0 (U.lz t (pt r x) s.aJ.length)with
  |none=>none
  |some cs=>LM r (xV r x) (j+1) {s with vs:=(j,.ptr s.aC 0)::s.vs,mem:=s.mem++[(s.aC,.cells false cs)],aC:=s.aC+1,aJ:=s.aJ++U.xS t (pt r x)}
def GX (s:bB U):List mV->Option (List (aO U.ay))
 |[]=>some []
 |r::rs=>match(match r with
   | .tmp t=>bw s.vs t
   | .cell a sh=>match bw s.vs a with
     |some (.ptr o f)=>match bw s.mem o with
      |some (.cells _ cs)=>cut cs f sh
      | _=>none
     | _=>none)with
  |none=>none
  |some v=>match GX s rs with
   |none=>none
   |some l=>some (v::l)
def Rs (s:bB U)(res:List Nat)(vs:List (aO U.ay)):Option (dD U res):=match vs with
 |[v]=>match qU 16 s.mem v with
  |some (v,_)=>qZ s.aJ res [v]
  |none=>none
 |vs=>match um (qU 15) s.mem vs with
  |some (vs,_)=>qZ s.aJ res vs
  |none=>none
def uq:bB U:=⟨[],[],0,[],[],[],[]⟩
noncomputable def GY (T:List (bM U))(ty:List (Nat × Nat))(wF:List (Nat × Nat × Nat))(f:hh)(an:kp U)(caps:List Nat)(args:List l4)(res:List Nat)(c:dD U caps)(a:l5 U args):Option (dD U res):=
 match Aj args a 0 uq []with
 |(s,fv)=>match LM caps c args.length s with
  |none=>none
  |some s=>kN ⟨T,fv,ty,wF⟩ f.body an s fun x s=>match x with
   | .exit _=>none
   | _=>match GX s f.results with
     |some vs=>Rs s res vs
     |none=>none
def hH{ay:Nat->Type}(k:IntKind):aO ay->Option Int
 | .int bE n=>match decide (bE=k)with
   |true=>some n
   |false=>none
 | _=>none
def LN{ay:Nat->Type}(B:List Bool):aO ay->Option Bool
 | .cy b=>some b
 | .bo i neg=>match nth B i with
   |some c=>match neg with
    |false=>some c
    |true=>some (!c)
   |none=>none
 | _=>none
def GZ{ay:Nat->Type}:aO ay->Option aW
 | .str s=>some s
 | _=>none
def nU{ay:Nat->Type}{R:Type}(f:List (aO ay)->Option R):aO ay->Option R
 | .agg vs=>f vs
 | _=>none
end
end Go.Abs.hG
namespace Go.Abs.bZ
open Go Go.Abs Go.Abs.hG
def r3:Nat->Type
 |0=>Int
 |1=>Bool
 |2=>aW
 |3=>Int
 |4=>gz
 |5=>(ak gz)
 |6=>(ak Int)
 |7=>Range
 |8=>Table
 |9=>(ak Table)
 |10=>(ak aW)
 |11=>Term
 |12=>(ak Term)
 |13=>Row
 |14=>Constraint
 |15=>(ak Constraint)
 |16=>cV
 |17=>(ak cV)
 |18=>Change
 |19=>(ak Change)
 |20=>(ak Row)
 |21=>ko
 |22=>(ak ko)
 |23=>c7
 |24=>Action
 |25=>(ak Action)
 |26=>Model
 |27=>(ak Bool)
 |28=>(ak Range)
 |29=>eg
 |30=>rY
 |31=>Token
 |32=>(ak Token)
 |100=>List (aW × Bool)
 | _=>Unit
def aqH:Nat->Nat
 |4=>3
 |7=>2
 |8=>6
 |11=>2
 |13=>2
 |14=>6
 |16=>3
 |18=>2
 |21=>3
 |23=>3
 |24=>5
 |26=>7
 |29=>8
 |30=>2
 |31=>4
 | _=>1
def acn:(t:Nat)->r3 t->V
 |0,x=>aQ x
 |1,x=>V.bool x
 |2,x=>V.str x
 |3,x=>(V.int .u8) x
 |4,x=>jB x
 |5,x=>(bU 3 jB) x
 |6,x=>(bU 1 aQ) x
 |7,x=>qV x
 |8,x=>lZ x
 |9,x=>(bU 6 lZ) x
 |10,x=>(bU 1 V.str) x
 |11,x=>ua x
 |12,x=>(bU 2 ua) x
 |13,x=>ub x
 |14,x=>sV x
 |15,x=>(bU 6 sV) x
 |16,x=>sW x
 |17,x=>(bU 3 sW) x
 |18,x=>uc x
 |19,x=>(bU 2 uc) x
 |20,x=>(bU 2 ub) x
 |21,x=>ud x
 |22,x=>(bU 3 ud) x
 |23,x=>wk x
 |24,x=>sX x
 |25,x=>(bU 5 sX) x
 |26,x=>wm x
 |27,x=>(bU 1 V.bool) x
 |28,x=>(bU 2 qV) x
 |29,x=>Fy x
 |30,x=>wo x
 |31,x=>Cu x
 |32,x=>(bU 4 Cu) x
 | _,_=>.aY
def aqI:(t:Nat)->r3 t->Nat->aO r3
 |0,x,n=>.int .i64 x
 |1,x,n=>.bo n false
 |2,x,n=>.str x
 |3,x,n=>.int .u8 x
 |4,x,n=>.agg [.int .i64 x.Table,.int .i64 x.fP,.int .i64 x.cj]
 |5,x,n=>.sl 4 x
 |6,x,n=>.sl 0 x
 |7,x,n=>.agg [.int .i64 x.fh,.int .i64 x.fi]
 |8,x,n=>.agg [.str x.Name,.int .i64 x.Kind,.sl 0 x.ba,.int .i64 x.Range.fh,.int .i64 x.Range.fi,.int .i64 x.cF]
 |9,x,n=>.sl 8 x
 |10,x,n=>.sl 2 x
 |11,x,n=>.agg [.int .i64 x.Cell,.int .i64 x.dB]
 |12,x,n=>.sl 11 x
 |13,x,n=>.agg [.sl 11 x.cd,.int .i64 x.gA]
 |14,x,n=>.agg [.int .i64 x.Kind,.int .i64 x.j3,.sl 11 x.Row.cd,.int .i64 x.Row.gA,.int .i64 x.cF,.int .i64 x.rX]
 |15,x,n=>.sl 14 x
 |16,x,n=>.agg [.str x.Name,.bo n false,.sl 0 x.aL]
 |17,x,n=>.sl 16 x
 |18,x,n=>.agg [.int .i64 x.Cell,.int .i64 x.Add]
 |19,x,n=>.sl 18 x
 |20,x,n=>.sl 13 x
 |21,x,n=>.agg [.int .i64 x.Kind,.int .i64 x.Cell,.int .i64 x.Value]
 |22,x,n=>.sl 21 x
 |23,x,n=>.agg [.sl 18 x.Delta,.sl 13 x.de,.sl 21 x.eQ]
 |24,x,n=>.agg [.int .i64 x.cV,.sl 0 x.dR,.sl 18 x.c7.Delta,.sl 13 x.c7.de,.sl 21 x.c7.eQ]
 |25,x,n=>.sl 24 x
 |26,x,n=>.agg [.sl 0 x.aL,.sl 8 x.Tables,.sl 2 x.dI,.sl 14 x.c4,.sl 16 x.Operations,.sl 24 x.Actions,.sl 4 x.bA]
 |27,x,n=>.sl 1 x
 |28,x,n=>.sl 7 x
 |29,x,n=>.agg [.sl 0 x.Model.aL,.sl 8 x.Model.Tables,.sl 2 x.Model.dI,.sl 14 x.Model.c4,.sl 16 x.Model.Operations,.sl 24 x.Model.Actions,.sl 4 x.Model.bA,.sl 7 x.strict]
 |30,x,n=>.agg [.int .i64 x.Kind,.int .i64 x.Index]
 |31,x,n=>.agg [.int .i64 x.Kind,.int .i64 x.abQ,.int .i64 x.At,.int .i64 x.End]
 |32,x,n=>.sl 31 x
 | _,_,_=>.k .aY
def aqJ:(t:Nat)->r3 t->List Bool
 |1,x=>[x]
 |16,x=>[x.Ordered]
 | _,_=>[]
def aqK:(t:Nat)->aO r3->List Bool->Option (r3 t)
 |0,v,B=>hH .i64 v
 |1,v,B=>LN B v
 |2,v,B=>GZ v
 |3,v,B=>hH .u8 v
 |4,v,B=>nU (fun vs=>match vs with
  |[fr,dk,eu]=>(hH .i64 fr).bind fun cu=>(hH .i64 dk).bind fun bt=>(hH .i64 eu).bind fun cH=>some ⟨cu,bt,cH⟩
  | _=>none) v
 |5,v,B=>e7 4 v
 |6,v,B=>e7 0 v
 |7,v,B=>nU (fun vs=>match vs with
  |[fr,dk]=>(hH .i64 fr).bind fun cu=>(hH .i64 dk).bind fun bt=>some ⟨cu,bt⟩
  | _=>none) v
 |8,v,B=>nU (fun vs=>match vs with
  |[fr,dk,eu,fe,ix,iz]=>(GZ fr).bind fun cu=>(hH .i64 dk).bind fun bt=>(e7 0 eu).bind fun cH=>(hH .i64 fe).bind fun dp=>(hH .i64 ix).bind fun jC=>(hH .i64 iz).bind fun ez=>some ⟨cu,bt,cH,⟨dp,jC⟩,ez⟩
  | _=>none) v
 |9,v,B=>e7 8 v
 |10,v,B=>e7 2 v
 |11,v,B=>nU (fun vs=>match vs with
  |[fr,dk]=>(hH .i64 fr).bind fun cu=>(hH .i64 dk).bind fun bt=>some ⟨cu,bt⟩
  | _=>none) v
 |12,v,B=>e7 11 v
 |13,v,B=>nU (fun vs=>match vs with
  |[fr,dk]=>(e7 11 fr).bind fun cu=>(hH .i64 dk).bind fun bt=>some ⟨cu,bt⟩
  | _=>none) v
 |14,v,B=>nU (fun vs=>match vs with
  |[fr,dk,eu,fe,ix,iz]=>(hH .i64 fr).bind fun cu=>(hH .i64 dk).bind fun bt=>(e7 11 eu).bind fun cH=>(hH .i64 fe).bind fun dp=>(hH .i64 ix).bind fun jC=>(hH .i64 iz).bind fun ez=>some ⟨cu,bt,⟨cH,dp⟩,jC,ez⟩
  | _=>none) v
 |15,v,B=>e7 14 v
 |16,v,B=>nU (fun vs=>match vs with
  |[fr,dk,eu]=>(GZ fr).bind fun cu=>(LN B dk).bind fun bt=>(e7 0 eu).bind fun cH=>some ⟨cu,bt,cH⟩
  | _=>none) v
 |17,v,B=>e7 16 v
 |18,v,B=>nU (fun vs=>match vs with
  |[fr,dk]=>(hH .i64 fr).bind fun cu=>(hH .i64 dk).bind fun bt=>some ⟨cu,bt⟩
  | _=>none) v
 |19,v,B=>e7 18 v
 |20,v,B=>e7 13 v
 |21,v,B=>nU (fun vs=>match vs with
  |[fr,dk,eu]=>(hH .i64 fr).bind fun cu=>(hH .i64 dk).bind fun bt=>(hH .i64 eu).bind fun cH=>some ⟨cu,bt,cH⟩
  | _=>none) v
 |22,v,B=>e7 21 v
 |23,v,B=>nU (fun vs=>match vs with
  |[fr,dk,eu]=>(e7 18 fr).bind fun cu=>(e7 13 dk).bind fun bt=>(e7 21 eu).bind fun cH=>some ⟨cu,bt,cH⟩
  | _=>none) v
 |24,v,B=>nU (fun vs=>match vs with
  |[fr,dk,eu,fe,ix]=>(hH .i64 fr).bind fun cu=>(e7 0 dk).bind fun bt=>(e7 18 eu).bind fun cH=>(e7 13 fe).bind fun dp=>(e7 21 ix).bind fun jC=>some ⟨cu,bt,⟨cH,dp,jC⟩⟩
  | _=>none) v
 |25,v,B=>e7 24 v
 |26,v,B=>nU (fun vs=>match vs with
  |[fr,dk,eu,fe,ix,iz,G0]=>(e7 0 fr).bind fun cu=>(e7 8 dk).bind fun bt=>(e7 2 eu).bind fun cH=>(e7 14 fe).bind fun dp=>(e7 16 ix).bind fun jC=>(e7 24 iz).bind fun ez=>(e7 4 G0).bind fun nN=>some ⟨cu,bt,cH,dp,jC,ez,nN⟩
  | _=>none) v
 |27,v,B=>e7 1 v
 |28,v,B=>e7 7 v
 |29,v,B=>nU (fun vs=>match vs with
  |[fr,dk,eu,fe,ix,iz,G0,aqL]=>(e7 0 fr).bind fun cu=>(e7 8 dk).bind fun bt=>(e7 2 eu).bind fun cH=>(e7 14 fe).bind fun dp=>(e7 16 ix).bind fun jC=>(e7 24 iz).bind fun ez=>(e7 4 G0).bind fun nN=>(e7 7 aqL).bind fun qd=>some ⟨⟨cu,bt,cH,dp,jC,ez,nN⟩,qd⟩
  | _=>none) v
 |30,v,B=>nU (fun vs=>match vs with
  |[fr,dk]=>(hH .i64 fr).bind fun cu=>(hH .i64 dk).bind fun bt=>some ⟨cu,bt⟩
  | _=>none) v
 |31,v,B=>nU (fun vs=>match vs with
  |[fr,dk,eu,fe]=>(hH .i64 fr).bind fun cu=>(hH .i64 dk).bind fun bt=>(hH .i64 eu).bind fun cH=>(hH .i64 fe).bind fun dp=>some ⟨cu,bt,cH,dp⟩
  | _=>none) v
 |32,v,B=>e7 31 v
 | _,_,_=>none
def aqM (t:Nat):Bool:=match t with
 |0=>true
 |1=>true
 |2=>true
 |3=>true
 | _=>false
def Rt:Nat->Option Nat
 |0=>some 0
 |2=>some 1
 | _=>none
def aqN:(t:Nat)->r3 t->r3 t->Bool
 |0,a,c=>@BEq.beq Int _ a c
 |2,a,c=>@BEq.beq aW _ a c
 | _,_,_=>false
def Ru:Nat->Option (Nat × Nat)
 |100=>some (2,1)
 | _=>none
theorem aqO (c:Nat)(p:Nat × Nat)(h:Ru c=some p):r3 c=List (r3 p.1 × r3 p.2):=by
 unfold Ru at h;split at h<;>cases h<;>rfl
abbrev a8:iE:=⟨r3,aqH,acn,aqI,aqJ,aqK,aqM,Rt,aqN,Ru,aqO⟩
end Go.Abs.bZ
namespace Go.Abs.hG
open Go Go.Abs
structure l7 {A:Type} [aS A] (S:A->Prop):Prop where
 bad:¬S aS.bad
 br:∀{i:Nat} {c:Bool} {x y:A},S (aS.br i c x y)->(c=true/\S x)\/(c=false/\S y)
 c2:∀{α:Type} {o:Option α} {f:α->A},S (aS.c2 o f)->∃x,o=some x/\S (f x)
theorem Rv{R:Type}(r:R):l7 (A:=Option R) (fun a=>a=some r) where
 bad:=fun h=>by cases h
 br:=fun h=>qR h
 c2:=fun h=>bind_some h
def pr.val{R:Type}:pr R->Option R
 | .leaf a=>some a
 | .br _ c t e=>bif c then t.val else e.val
 | .bad=>none
theorem aqP{R:Type}(r:R):l7 (A:=pr R) (fun a=>a.val=some r) where
 bad:=fun h=>by cases h
 br:=fun h=>qR h
 c2:=fun h=>by cases h
section
variable{U:iE}
def q4 (U:iE)(b:Nat)(B:List Bool)(ρ fs:List V)(o:Nat)(m:List (Nat × cD)):cv U->Prop
 | .cells w cs=>∃a ws,ρ[o]? =some (.ptr a 0)/\m=[(a,.cells ws)]/\bz U B ρ fs cs ws/\(w=true->b<=a)
 | .row t s=>∃v,ρ[o]? =some v/\iO b (U.es t) (U.enc t) v s m
 | .mp k w x=>∃a,ρ[o]? =some (.map a)/\m=[(a,.map (gK (U.enc k) (U.enc w) x))]/\b<=a
def dV (s:bB U)(G:Nat->List (Nat × cD))(F:cO):cO:=s.mem.map (fun e=>G e.1)++F
structure b6 (U:iE) (b:Nat) (F:cO) (fs:List V) (s:bB U) (σ:bY) (H:Heap) (G:Nat->List (Nat × cD)) (ρ:List V):Prop where
 aC:ρ.length=s.aC
 vs:∀t v,bw s.vs t=some v->b5 U s.aJ ρ fs v (σ t)
 own:Own H (dV s G F)
 dx:(s.mem.map Prod.fst).Nodup
 lt:∀e∈s.mem,e.1<s.aC
 mem:∀o a1,bw s.mem o=some a1->q4 U b s.aJ ρ fs o (G o) a1
 ed:∀i β,bw s.ed i=some β->s.aJ[i]? =some β
structure jE (s ar:bB U):Prop where
 vs:ar.vs=s.vs
 mem:ar.mem=s.mem
 aC:ar.aC=s.aC
 dS:ar.dS=s.dS
 cN:ar.cN=s.cN
 aJ:s.aJ <+: ar.aJ
 ed:(∀i β,bw s.ed i=some β->s.aJ[i]? =some β)->∀i β,bw ar.ed i=some β->ar.aJ[i]? =some β
theorem jE.rfl{s:bB U}:jE s s:=⟨Eq.refl _,Eq.refl _,Eq.refl _,Eq.refl _,Eq.refl _,ew,fun h=>h⟩
theorem jE.trans{s ar G1:bB U}(h:jE s ar)(k:jE ar G1):jE s G1:=
 ⟨k.vs.trans h.vs,k.mem.trans h.mem,k.aC.trans h.aC,k.dS.trans h.dS,k.cN.trans h.cN,h.aJ.trans k.aJ,fun q=>k.ed (h.ed q)⟩
variable{b:Nat}{F:cO}{fs:List V}{s ar:bB U}{σ bp:bY}{H:Heap}{G:Nat->List (Nat × cD)}{ρ:List V}{aq:kK U}{call:c1}
theorem q4.mono{B s5:List Bool}{cM:List V}(dK:B <+: s5)(aR:ρ <+: cM){o:Nat}{m:List (Nat × cD)}:∀{a1:cv U},q4 U b B ρ fs o m a1->q4 U b s5 cM fs o m a1
 | .cells w cs,⟨a,ws,h1,h2,av,bc⟩=>⟨a,ws,nS aR h1,h2,av.mono dK aR,bc⟩
 | .row t s,⟨v,h1,h2⟩=>⟨v,nS aR h1,h2⟩
 | .mp k w x,⟨a,h1,h2⟩=>⟨a,nS aR h1,h2⟩
theorem b6.ey (R:b6 U b F fs s σ H G ρ)(k:jE s ar):b6 U b F fs ar σ H G ρ where
 aC:=by rw[k.aC];exact R.aC
 vs:=fun t v h=>by rw[k.vs]at h;exact(R.vs t v h).mono k.aJ ew
 own:=by have:=R.own;unfold dV at this⊢; rw[k.mem];exact this
 dx:=by rw[k.mem];exact R.dx
 lt:=by rw[k.mem,k.aC];exact R.lt
 mem:=fun o a1 h=>by rw[k.mem]at h;exact(R.mem o a1 h).mono k.aJ ew
 ed:=k.ed R.ed
theorem jF{α:Type}{l:List (Nat × α)}{t:Nat}{a:α}(h:bw l t=some a):(t,a)∈l:=by
 induction l with
 |nil=>cases h
 |cons p l ih=>
  obtain⟨k,c⟩:=p;rw[gd]at h;split at h
  ·rename_i e;cases h;subst e;simp
  ·exact lg _ (ih h)
theorem b6.at (R:b6 U b F fs s σ H G ρ){o:Nat}{a1:cv U}(h:bw s.mem o=some a1):∃k,(dV s G F)[k]? =some (G o)/\k<s.mem.length/\∃ah:k<s.mem.length,s.mem[k].1=o:=by
 obtain⟨k,ah,e⟩:=List.mem_iff_getElem.1 (jF h);refine⟨k,?_,ah,ah,by rw[e]⟩;unfold dV;rw[gM (by simpa using ah),kR,jI ah,e];rfl
theorem b6.cells (R:b6 U b F fs s σ H G ρ){o:Nat}{w:Bool}{cs:List (aO U.ay)}(h:bw s.mem o=some (.cells w cs)):
  ∃a ws,ρ[o]? =some (.ptr a 0)/\G o=[(a,.cells ws)]/\(∀H',Own H' (dV s G F)->H'[a]? =some (.cells ws))/\bz U s.aJ ρ fs cs ws/\(w=true->b<=a):=by
 obtain⟨a,ws,h1,h2,av,bc⟩:=R.mem o _ h;obtain⟨k,ah,-⟩:=R.at h;exact⟨a,ws,h1,h2,fun H' aB=>aB.get k (by rw[ah,h2]),av,bc⟩
mutual
theorem LO{B:List Bool}:∀v:V,b5 U B ρ fs (GL v) v
 | .bool _=>.cy
 | .int _ _=>.int
 | .str _=>.str
 | .agg vs=>.agg (G2 vs)
 | .aY| .emp| .list _ _| .bd _| .iY| .ptr _ _| .hg .. | .dW _ _| .b7 .. | .h7| .map _| .kA| .fn _ _ _| .yield _| .jL| .iface _ _| .undef=>.k
theorem G2{B:List Bool}:∀vs:List V,bz U B ρ fs (C3 vs) vs
 |[]=>.nil
 |v::r=>.cons (LO v) (G2 r)
end
theorem Ak{B:List Bool}{v:aO U.ay}{w:V}{cs:List (aO U.ay)}(h:r0 v=some cs)(af:b5 U B ρ fs v w):bz U B ρ fs cs (aF w):=by
 cases af<;>simp only[r0]at h
 case agg h'=>cases h;exact h'
 case bd=>cases h
 case row=>cases h
 case jk=>cases h
 case fv=>cases h
 case lb=>cases h
 case k=>
  split at h
  ·cases h
  ·cases h
   cases w<;>first|exact .cons .k .nil|simp_all
 case sl=>cases h;rw[abu];exact .cons .sl .nil
 all_goals cases h
 ·exact .cons .int .nil
 ·exact .cons .cy .nil
 ·rename_i h';exact .cons (.bo h') .nil
 ·exact .cons .str .nil
 ·rename_i h';exact .cons (.dW h') .nil
 ·rename_i h';exact .cons (.ptr h') .nil
 ·rename_i h';exact .cons (.fn h') .nil
theorem aco{B:List Bool}{v:aO U.ay}{w:V}(h:Lu v=true)(af:b5 U B ρ fs v w):eH w=true:=by
 cases af<;>simp only[Lu]at h<;>first|rfl|exact anJ _ _ _|exact h|cases h
theorem Rw{B:List Bool}:∀{cs:List (aO U.ay)} {ws:List V},GM cs=true->bz U B ρ fs cs ws->bX ws=true
 | _,_,_,.nil=>rfl
 | _,_,h,.cons h' r=>by
   simp only[GM]at h;split at h
   ·rename_i e;simp only[bX,aco e h',Rw h r,xd]
   ·cases h
theorem acp (R:b6 U b F fs s σ H G ρ){o:Nat}{w:V}(h:wH s.mem o=true)(af:b5 U s.aJ ρ fs (.row o) w):aF w=[w]/\eH w=true:=by
 unfold wH at h;split at h
 ·rename_i hm
  obtain⟨v,h1,h2⟩:=R.mem _ _ hm;cases af with
  |row av=>
   rw[h1]at av;cases av;exact⟨h2.cells,h2.eH⟩
 ·cases h
theorem aqQ (R:b6 U b F fs s σ H G ρ){v:aO U.ay}{w:V}{cs:List (aO U.ay)}(h:Rn s.mem v=some cs)(af:b5 U s.aJ ρ fs v w):bz U s.aJ ρ fs cs (aF w):=by
 unfold Rn at h;split at h
 ·split at h
  ·rename_i e
   cases h;rw[(acp R e af).1];exact .cons af .nil
  ·cases h
 ·exact Ak h af
theorem acq (R:b6 U b F fs s σ H G ρ):∀{cs:List (aO U.ay)} {ws:List V},LF s.mem cs=true->bz U s.aJ ρ fs cs ws->bX ws=true
 | _,_,_,.nil=>rfl
 | _,_,h,.cons (w:=w) h' r=>by
   unfold LF at h;split at h
   ·rename_i e
    have:eH w=true:=by
     split at e
     ·exact(acp R e h').2
     ·exact aco e h'
    simp only[bX,this,acq R h r,xd]
   ·cases h
theorem G3{B:List Bool}{cs:List (aO U.ay)}{ws:List V}{off:Nat}{sh:Option Nat}{v:aO U.ay}(h:cut cs off sh=some v)(hc:bz U B ρ fs cs ws):∃w,iq ws off sh=some w/\b5 U B ρ fs v w:=by
 cases sh with
 |none=>
  simp only[cut,wD]at h;exact hc.get h
 |some n=>
  simp only[cut]at h;split at h
  ·rename_i e
   cases h;refine⟨_,?_,.agg ((hc.drop off).take n)⟩;simp only[iq];rw[if_pos (by rw[<-hc.length];exact ma e)]
  ·cases h
theorem LP{B:List Bool}:∀{xs:List (aO U.ay)} {cL:List V},bz U B ρ fs xs cL->∀{cs:List (aO U.ay)} {ws:List V} (o:Nat),bz U B ρ fs cs ws->bz U B ρ fs (uh cs o xs) (setCells ws o cL)
 | _,_,.nil,_,_,_,h=>h
 | _,_,.cons h' r,_,_,o,h=>LP r (o+1) (h.set o h')
theorem db (R:b6 U b F fs s σ H G ρ)(b4:∀t v,bw aq t=some v->b5 U s.aJ ρ fs v (bp t)):∀{x:aj} {v:aO U.ay},ai aq s x=some v->b5 U s.aJ ρ fs v (bV bp σ x)
 | .tmp t,_,h=>b4 t _ h
 | .var t,_,h=>R.vs t _ h
 | .const v,_,h=>by cases h;exact LO v
 | .func i,_,h=>by cases h;exact .fn .nil
theorem wK (R:b6 U b F fs s σ H G ρ)(b4:∀t v,bw aq t=some v->b5 U s.aJ ρ fs v (bp t)):∀{xs:List aj} {vs:List (aO U.ay)},wE aq s xs=some vs->bz U s.aJ ρ fs vs (xs.map (bV bp σ))
 |[],_,h=>by cases h;exact .nil
 |x::r,_,h=>by
  simp only[wE]at h;split at h
  ·rename_i v e
   split at h
   ·rename_i l e2
    cases h;exact .cons (db R b4 e) (wK R b4 e2)
   ·cases h
  ·cases h
section
variable{A:Type}[aS A]{S:A->Prop}
theorem C8 (aD:l7 S){v:aO U.ay}{w:V}{qb cB:bB U->A}(h:S (split s v qb cB))(ah:∀i β,bw s.ed i=some β->s.aJ[i]? =some β)(af:b5 U s.aJ ρ fs v w):
  ∃β ar,w=.bool β/\jE s ar/\ar.aJ=s.aJ/\((β=true/\S (qb ar))\/(β=false/\S (cB ar))):=by
 cases af<;>simp only[split]at h
 case cy b=>cases b<;>exact⟨_,s,rfl,.rfl,rfl,by simpa using h⟩
 case bo i b neg hb=>
  split at h
  ·rename_i e3 e
   have hv:=ah _ _ e;rw[hb]at hv;cases hv;refine⟨_,s,rfl,.rfl,rfl,?_⟩;cases b<;>cases neg<;>simpa using h
  ·rename_i e
   rw[wD,hb]at h
   have key:∀β,b=β->jE s {s with ed:=(i,β)::s.ed}:=fun β pb=>⟨rfl,rfl,rfl,rfl,rfl,ew,fun q j aqR hj=>by
    rw[gd]at hj;split at hj
    ·rename_i e;cases hj;subst e;rw[<-pb];exact hb
    ·exact q j aqR hj⟩
   cases neg<;>simp only at h<;>rcases aD.br h with⟨hc,h2⟩|⟨hc,h2⟩<;>subst hc
   ·exact⟨_,_,rfl,key true rfl,rfl,.inl ⟨rfl,h2⟩⟩
   ·exact⟨_,_,rfl,key false rfl,rfl,.inr ⟨rfl,h2⟩⟩
   ·exact⟨_,_,rfl,key true rfl,rfl,.inr ⟨rfl,h2⟩⟩
   ·exact⟨_,_,rfl,key false rfl,rfl,.inl ⟨rfl,h2⟩⟩
 all_goals exact absurd h aD.bad
theorem C9{v:aO U.ay}{w:V}{c:Bool}(h:xT s v=some c)(af:b5 U s.aJ ρ fs v w):w=.bool c:=by
 cases af<;>simp only[xT]at h
 case cy=>cases h;rfl
 case bo i b neg hb=>
  rw[wD,hb]at h;cases neg<;>cases h<;>simp
 all_goals cases h
theorem aqS (c:Bool):jE s {s with aJ:=s.aJ++[c]}:=⟨rfl,rfl,rfl,rfl,rfl,h6 _ _,fun q i β h=>nS (h6 _ _) (q i β h)⟩
theorem LQ (l:List Bool):jE s {s with aJ:=s.aJ++l}:=⟨rfl,rfl,rfl,rfl,rfl,h6 _ _,fun q i β h=>nS (h6 _ _) (q i β h)⟩
theorem acr{c neg:Bool}{k:aO U.ay->bB U->A}(h:S (name s c neg k)):∃v ar,S (k v ar)/\jE s ar/\b5 U ar.aJ ρ fs v (.bool (c != neg)):=
 ⟨_,_,h,aqS c,.bo (by simp)⟩
theorem Al (a6:gD U){t:Nat}{x:U.ay t}{k:aO U.ay->bB U->A}(h:S (elem t x s k)):∃v ar,S (k v ar)/\jE s ar/\b5 U ar.aJ ρ fs v (U.enc t x):=
 ⟨_,_,h,LQ _,a6.lz t x s.aJ ρ fs⟩
end
end
end Go.Abs.hG
