/- Texts of this claim, joined and written short by a program. -/
import Derived.Test.YtemakagmboeodaaGreatDoorP19
import Derived.Test.YtemakagmboeodaaGreatDoorP18
import Derived.Test.YtemakagmboeodaaGreatDoorP00
set_option linter.unusedVariables false
set_option linter.unusedSimpArgs false
set_option linter.unusedSectionVars false
namespace Go.Abs.fM
open Go Go.Abs
inductive bC (U:fW) where
 |cells (w:Bool) (cs:List (aD U.ar))
 |row (t:Nat) (s:al (U.ar t))
 |fz (t:Nat) (s:al (U.ar t))
 |mp (k w:Nat) (m:List (U.ar k × U.ar w))
structure a1 (U:fW) where
 vs:List (Nat × aD U.ar)
 mem:List (Nat × bC U)
 aA:Nat
 aB:List Bool
 dh:List (Nat × Bool)
 c3:List Nat
 bU:List (Nat × Nat)
section
variable{U:fW}
class aF (A:Type) where
 bad:A
 br:Nat->Bool->A->A->A
 bL:{α:Type}->Option α->(α->A)->A
instance{R:Type}:aF (Option R):=⟨none,fun _ c x y=>bif c then x else y,fun o f=>o.bind f⟩
inductive lD (A:Type) where
 |leaf (a:A)
 |br (i:Nat) (c:Bool) (t e:lD A)
 |bad
instance{R:Type}:aF (lD R):=⟨.bad,.br,fun _ _=>.bad⟩
mutual
def yV:V->aD U.ar
 | .bool b=>.eS b
 | .int k n=>.int k n
 | .str s=>.str s
 | .agg vs=>.agg (wS vs)
 |v=>.k v
def wS:List V->List (aD U.ar)
 |[]=>[]
 |v::r=>yV v::wS r
end
def nP:aD U.ar->Option (List (aD U.ar))
 | .agg vs=>some vs
 | .iH| .fv _| .aR _| .row _| .gC .. | .iG .. =>none
 | .k v=>match v with
   | .agg _=>none
   |v=>some [.k v]
 |v=>some [v]
def BP:aD U.ar->Bool
 | .int .. | .eS _| .bo .. | .str _| .sl .. | .ptr .. | .fn .. =>true
 | .k v=>e1 v
 | _=>false
def yW:List (aD U.ar)->Bool
 |[]=>true
 |v::r=>match BP v with
  |true=>yW r
  |false=>false
abbrev h6 (U:fW):=List (Nat × aD U.ar)
def ag (aj:h6 U)(s:a1 U):ah->Option (aD U.ar)
 | .tmp t=>aX aj t
 | .var t=>aX s.vs t
 | .const v=>some (yV v)
 | .func i=>some (.fn i [])
def qR (aj:h6 U)(s:a1 U):List ah->Option (List (aD U.ar))
 |[]=>some []
 |x::r=>match ag aj s x with
  |some v=>match qR aj s r with
   |some l=>some (v::l)
   |none=>none
  |none=>none
def split{A:Type}[aF A](s:a1 U)(v:aD U.ar)(pE qP:a1 U->A):A:=match v with
 | .eS true=>pE s
 | .eS false=>qP s
 | .bo i neg=>match aX s.dh i with
   |some b=>match b,neg with
    |true,false=>pE s
    |false,true=>pE s
    | _,_=>qP s
   |none=>match nth s.aB i with
    |none=>aF.bad
    |some c=>match neg with
     |false=>aF.br i c (pE {s with dh:=(i,true)::s.dh}) (qP {s with dh:=(i,false)::s.dh})
     |true=>aF.br i c (qP {s with dh:=(i,true)::s.dh}) (pE {s with dh:=(i,false)::s.dh})
 | _=>aF.bad
def sc (s:a1 U):aD U.ar->Option Bool
 | .eS b=>some b
 | .bo i neg=>match nth s.aB i with
   |some c=>match neg with
    |false=>some c
    |true=>some (!c)
   |none=>none
 | _=>none
def name{A:Type}[aF A](s:a1 U)(c:Bool)(neg:Bool)(k:aD U.ar->a1 U->A):A:=k (.bo s.aB.length neg) {s with aB:=s.aB++[c]}
def elem{A:Type}[aF A](t:Nat)(x:U.ar t)(s:a1 U)(k:aD U.ar->a1 U->A):A:=k (U.e7 t x s.aB.length) {s with aB:=s.aB++U.oM t x}
def cut (cs:List (aD U.ar))(off:Nat):Option Nat->Option (aD U.ar)
 |none=>nth cs off
 |some n=>match Nat.ble (off+n) cs.length with
  |true=>some (.agg ((cs.drop off).take n))
  |false=>none
def pF (cs:List (aD U.ar))(o:Nat):List (aD U.ar)->List (aD U.ar)
 |[]=>cs
 |x::xs=>pF (cs.set o x) (o+1) xs
def bin{A:Type}[aF A](s:a1 U)(op:BinOp)(k:aD U.ar->a1 U->A)(x y:aD U.ar):A:=match x,y with
 | .int bI a,.int yX c=>match decide (bI=yX)with
   |false=>aF.bad
   |true=>match op with
    | .add=>k (.int bI (bI.wrap (a+c))) s
    | .sub=>k (.int bI (bI.wrap (a-c))) s
    | .mul=>k (.int bI (bI.wrap (a*c))) s
    | .eql=>name s (a==c) false k
    | .neq=>name s (a != c) false k
    | .lss=>name s (decide (a<c)) false k
    | .leq=>name s (decide (a<=c)) false k
    | .gtr=>name s (decide (a>c)) false k
    | .geq=>name s (decide (a>=c)) false k
    | .and=>k (.int bI (bI.wrap ((BitVec.ofInt bI.bits a &&& BitVec.ofInt bI.bits c).toNat))) s
    | .quo=>match bI with
      | .i64=>aF.bL (Q4 a c) fun q=>k (.int .i64 q) s
      | _=>aF.bad
    | .rem=>match bI with
      | .i64=>aF.bL (Q5 a c) fun q=>k (.int .i64 q) s
      | _=>aF.bad
    | _=>aF.bad
 | .str a,.str c=>match op with
   | .add=>aF.bL (Q6 a c) fun q=>k (.str q) s
   | .eql=>name s (a==c) false k
   | .neq=>name s (a != c) false k
   | _=>aF.bad
 | _,_=>aF.bad
def GO{A:Type}[aF A](s:a1 U)(op:BinOp)(k:aD U.ar->a1 U->A)(x:aD U.ar)(mM:IntKind)(c:Int):A:=match x with
 | .int bI a=>match op with
   | .shl=>match decide (0<=c/\c.toNat<=bI.bits)with
     |true=>k (.int bI (bI.wrap (a*2^c.toNat))) s
     |false=>aF.bad
   | .shr=>match decide (0<=c/\c.toNat<=bI.bits)with
     |true=>k (.int bI (a/2^c.toNat)) s
     |false=>aF.bad
   | .quo=>match decide (bI=mM/\0<c)with
     |true=>k (.int bI (bI.wrap (a.tdiv c))) s
     |false=>aF.bad
   | .rem=>match decide (bI=mM/\0<c)with
     |true=>k (.int bI (a.tmod c)) s
     |false=>aF.bad
   |op=>bin s op k x (.int mM c)
 | _=>bin s op k x (.int mM c)
def pG (s:a1 U):List Nat->List (aD U.ar)->List (aD U.ar)->Option Bool
 |[],[],[]=>some true
 |n::dN,x::xs,y::bX=>match pG s dN xs bX with
  |none=>none
  |some e=>match n,x,y with
   |0,.int k a,.int bJ c=>match decide (k=bJ)with
    |true=>some ((a==c)&&e)
    |false=>none
   |1,.str a,.str c=>some ((a==c)&&e)
   |2,x,y=>match sc s x,sc s y with
    |some a,some c=>some ((a==c)&&e)
    | _,_=>none
   | _,_,_=>none
 | _,_,_=>none
def BQ (z:List (aD U.ar))(aj:h6 U)(s:a1 U):List (Nat × Nat × ah)->Option (List (aD U.ar))
 |[]=>some z
 |(off,n,x)::r=>match ag aj s x with
  |none=>none
  |some v=>match nP v with
   |none=>none
   |some cs=>match Nat.beq cs.length n,Nat.ble (off+n) z.length,yW cs with
    |true,true,true=>BQ (pF z off cs) aj s r
    | _,_,_=>none
def BR:Nat->List (Nat × ah)->Bool
 | _,[]=>true
 |n,p::r=>match Nat.beq p.1 n with
  |true=>BR (n+1) r
  |false=>false
def BS (t:Nat)(B:List Bool):List (aD U.ar)->Option (List (U.ar t))
 |[]=>some []
 |v::r=>match U.gu t v B with
  |none=>none
  |some x=>match BS t B r with
   |none=>none
   |some l=>some (x::l)
def kZ{ar:Nat->Type}(t:Nat):aD ar->Option (al (ar t))
 | .sl dr s=>if h:dr=t then some (h ▸ s)else none
 | .k .ak=>some .nil
 | .k .emp=>some .emp
 | _=>none
def RG (z:List V):aD U.ar:=match z with
 |[v]=>yV v
 |z=>.agg (wS z)
def BT (k w:Nat)(m:List (U.ar k × U.ar w))(x:U.ar k):Option (U.ar w):=@sa _ _ ⟨U.beq k⟩ m x
def adr (k w:Nat)(m:List (U.ar k × U.ar w))(x:U.ar k)(y:U.ar w):List (U.ar k × U.ar w):=@wL _ _ ⟨U.beq k⟩ m x y
def kindOf (k:Nat)(n:Nat):Bool:=match U.bE k with
 |some m=>Nat.beq m n
 |none=>false
def nQ:aD U.ar->Option (aD U.ar)
 | .k .ak=>some (.k .ak)
 | .k .emp=>some (.k .emp)
 | .sl _ .nil=>some (.k .ak)
 | .sl _ .emp=>some (.k .emp)
 | _=>none
def yY{A:Type}[aF A](aj:h6 U)(s:a1 U)(ty:Option Nat)(k:aD U.ar->a1 U->A):b8->A
 | .mv x=>match ag aj s x with
   |some v=>k v s
   |none=>aF.bad
 | .pick c a b=>match ag aj s c with
   |some c=>split s c (fun s=>match ag aj s a with|some v=>k v s|none=>aF.bad) (fun s=>match ag aj s b with|some v=>k v s|none=>aF.bad)
   |none=>aF.bad
 | .build z parts=>match BQ (wS z) aj s parts with
   |some cs=>k (.agg cs) s
   |none=>aF.bad
 | .lit es z len parts gQ=>match ty,gQ with
   |some t,true=>match qR aj s (parts.map Prod.snd)with
    |none=>aF.bad
    |some vs=>match BS t s.aB vs,BR 0 parts,Nat.beq vs.length len,Nat.beq (U.es t) es with
     |some l,true,true,true=>match l with
      |[]=>k (.sl t .emp) s
      |l=>k (.sl t (.mk l)) s
     | _,_,_,_=>aF.bad
   | _,_=>aF.bad
 | .load sh x=>match ag aj s x with
   |some (.dp cs f)=>match cut cs f sh with
    |some v=>k v s
    |none=>aF.bad
   |some (.ptr o f)=>match aX s.mem o with
    |some (.cells _ cs)=>match cut cs f sh with
     |some v=>k v s
     |none=>aF.bad
    | _=>aF.bad
   |some (.gC o n f)=>match aX s.mem o with
    |some (.row t a)=>aF.bL (dx a.l n) fun e=>elem t e s fun v s=>match nP v with
     |some cs=>match cut cs f sh with
      |some v=>k v s
      |none=>aF.bad
     |none=>aF.bad
    | _=>aF.bad
   | _=>aF.bad
 | .nilCheck x=>match ag aj s x with
   |some (.ptr o f)=>k (.ptr o f) s
   |some (.dp cs f)=>k (.dp cs f) s
   |some (.fn i cs)=>k (.fn i cs) s
   |some (.gC o n f)=>k (.gC o n f) s
   | _=>aF.bad
 | .bin op x (.const (.int mM c))=>match ag aj s x with
   |some v=>GO s op k v mM c
   |none=>aF.bad
 | .bin op x y=>match ag aj s x,ag aj s y with
   |some v,some w=>bin s op k v w
   | _,_=>aF.bad
 | .sQ neg dN x y=>match ag aj s x,ag aj s y with
   |some (.agg a),some (.agg c)=>match pG s dN a c with
    |some e=>name s e neg k
    |none=>aF.bad
   | _,_=>aF.bad
 | .mY kind neg x y=>match ag aj s x,ag aj s y with
   |some v,some w=>match kind,v,w with
    |1,.sl _ a,.k .ak=>name s a.isNil neg k
    |4,v,w=>match sc s v,sc s w with
     |some a,some c=>name s (a==c) neg k
     | _,_=>aF.bad
    | _,_,_=>aF.bad
   | _,_=>aF.bad
 | .un op x=>match op,ag aj s x with
   | .not,some (.eS b)=>k (.eS (!b)) s
   | .not,some (.bo i neg)=>k (.bo i (!neg)) s
   | .neg,some (.int bI n)=>k (.int bI (bI.wrap (0-n))) s
   | _,_=>aF.bad
 | .conv bI x=>match ag aj s x with
   |some (.int _ n)=>k (.int bI (bI.wrap n)) s
   | _=>aF.bad
 | .p3 mx x y=>match ag aj s x,ag aj s y with
   |some (.int bI a),some (.int yX c)=>match decide (bI=yX)with
    |true=>match mx with
     |true=>k (.int bI (max a c)) s
     |false=>k (.int bI (min a c)) s
    |false=>aF.bad
   | _,_=>aF.bad
 | .sR i [] cs=>match qR aj s cs with
   |some vs=>k (.fn i vs) s
   |none=>aF.bad
 | .fieldAddr off x=>match ag aj s x with
   |some (.ptr o f)=>k (.ptr o (f+off)) s
   |some (.dp cs f)=>k (.dp cs (f+off)) s
   |some (.gC o n f)=>k (.gC o n (f+off)) s
   | _=>aF.bad
 | .field off sh x=>match ag aj s x with
   |some (.agg cs)=>match cut cs off sh with
    |some v=>k v s
    |none=>aF.bad
   | _=>aF.bad
 | .extract x i=>match ag aj s x with
   |some (.aR vs)=>match nth vs i with
    |some v=>k v s
    |none=>aF.bad
   | _=>aF.bad
 | .len kind x=>match kind,ag aj s x with
   |0,some (.str a)=>k (.int .i64 (a.length:Int)) s
   |1,some (.sl _ a)=>k (.int .i64 a.len) s
   |1,some (.row o)=>match aX s.mem o with
    |some (.row _ a)=>k (.int .i64 a.len) s
    | _=>aF.bad
   |2,some (.row o)=>match aX s.mem o with
    |some (.mp _ _ m)=>k (.int .i64 (m.length:Int)) s
    | _=>aF.bad
   |1,some (.k .ak)=>k (.int .i64 0) s
   |1,some (.k .emp)=>k (.int .i64 0) s
   | _,_=>aF.bad
 | .indexAddr es x i=>match ag aj s x,ag aj s i with
   |some (.sl t a),some (.int _ n)=>match Nat.beq (U.es t) es with
    |true=>aF.bL (dx a.l n) fun e=>elem t e s fun v s=>match nP v with
     |some cs=>k (.dp cs 0) s
     |none=>aF.bad
    |false=>aF.bad
   |some (.row o),some (.int _ n)=>match aX s.mem o with
    |some (.row t a)=>match Nat.beq (U.es t) es with
     |true=>aF.bL (dx a.l n) fun _=>k (.gC o n 0) s
     |false=>aF.bad
    | _=>aF.bad
   | _,_=>aF.bad
 | .sS x i=>match ag aj s x,ag aj s i with
   |some (.str a),some (.int _ n)=>aF.bL (dx a n) fun c=>k (.int .u8 (c.toNat:Int)) s
   | _,_=>aF.bad
 | .rf x cS hi=>match ag aj s x with
   |some (.str a)=>match cS.map (ag aj s),hi.map (ag aj s)with
    |none,none=>aF.bL (wK a 0 (a.length:Int)) fun q=>k (.str q) s
    |some (some (.int .i64 n)),none=>aF.bL (wK a n (a.length:Int)) fun q=>k (.str q) s
    |none,some (some (.int .i64 m))=>aF.bL (wK a 0 m) fun q=>k (.str q) s
    |some (some (.int .i64 n)),some (some (.int .i64 m))=>aF.bL (wK a n m) fun q=>k (.str q) s
    | _,_=>aF.bad
   | _=>aF.bad
 | .lookup kind z x i ok=>match ag aj s x,ag aj s i with
   |some (.row o),some v=>match aX s.mem o with
    |some (.mp ek hh m)=>match U.gu ek v s.aB,U.gu hh (yV z) s.aB,kindOf (U:=U) ek kind with
     |some x,some z,true=>match ok with
      |false=>elem hh ((BT ek hh m x).getD z) s k
      |true=>elem hh ((BT ek hh m x).getD z) s fun v s=>name s (BT ek hh m x).isSome false fun b s=>k (.aR [v,b]) s
     | _,_,_=>aF.bad
    | _=>aF.bad
   | _,_=>aF.bad
 | .pZ es x cS hi none=>match ag aj s x with
   |some (.row o)=>match aX s.mem o with
    |some (.row t a)=>match Nat.beq (U.es t) es with
     |true=>match cS.map (ag aj s),hi.map (ag aj s)with
      |some (some (.int .i64 n)),none=>aF.bL (eT a n a.len) fun _=>k (.iG o n a.len) s
      |none,some (some (.int .i64 m))=>aF.bL (eT a 0 m) fun _=>k (.iG o 0 m) s
      | _,_=>aF.bad
     |false=>aF.bad
    | _=>aF.bad
   |some (.sl t a)=>match Nat.beq (U.es t) es with
    |true=>match cS.map (ag aj s),hi.map (ag aj s)with
     |none,none=>aF.bL (eT a 0 a.len) fun q=>k (.sl t q) s
     |some (some (.int .i64 n)),none=>aF.bL (eT a n a.len) fun q=>k (.sl t q) s
     |none,some (some (.int .i64 m))=>aF.bL (eT a 0 m) fun q=>k (.sl t q) s
     |some (some (.int .i64 n)),some (some (.int .i64 m))=>aF.bL (eT a n m) fun q=>k (.sl t q) s
     | _,_=>aF.bad
    |false=>aF.bad
   | _=>aF.bad
 | .rh es bytes a b=>match ag aj s a,ag aj s b with
   |some x,some (.sl t y)=>match Nat.beq (U.es t) es,nQ x with
    |true,some (.k .ak)=>aF.bL (et bytes .nil y) fun z=>k (.sl t z) s
    |true,some (.k .emp)=>aF.bL (et bytes .emp y) fun z=>k (.sl t z) s
    | _,_=>aF.bad
   | _,_=>aF.bad
 | _=>aF.bad
end
end Go.Abs.fM
namespace Go.Abs.fM
open Go Go.Abs
inductive jA where
 |v (t:Nat)
 |f (c6:List Nat) (rt:Nat)
 deriving DecidableEq
section
variable (U:fW)
def c4:List Nat->Type
 |[]=>Unit
 |a::r=>match r with
  |[]=>U.ar a
  | _::_=>U.ar a × c4 r
def ads:jA->Type
 | .v t=>U.ar t
 | .f c6 rt=>c4 U c6->Option (U.ar rt)
def kB:List jA->Type
 |[]=>Unit
 |a::r=>ads U a × kB r
def uw:List (List Nat)->Type
 |[]=>Unit
 |a::r=>match r with
  |[]=>c4 U a
  | _::_=>oJ (c4 U a) (uw r)
structure eU where
 id:Nat
 caps:List Nat
 args:List jA
 res:List Nat
 fn:c4 U caps->kB U args->Option (c4 U res)
structure yZ where
 c6:List Nat
 rt:Nat
 f:c4 U c6->Option (U.ar rt)
structure kc where
 T:List (eU U)
 fv:List (yZ U)
 ty:List (Nat × Nat)
 cl:List (Nat × Nat × Nat)
 bD:List (eU U)
end
section
variable{U:fW}{A:Type}[aF A]
def sd{a:Nat}:(r:List Nat)->U.ar a->c4 U r->c4 U (a::r)
 |[],x,_=>x
 | _::_,x,y=>(x,y)
def lE{a:Nat}:(r:List Nat)->c4 U (a::r)->U.ar a
 |[],x=>x
 | _::_,x=>x.1
def se{a:Nat}:(r:List Nat)->c4 U (a::r)->c4 U r
 |[],_=>()
 | _::_,x=>x.2
def BU:(c6:List Nat)->c4 U c6->kB U (c6.map jA.v)
 |[],_=>()
 | _::r,x=>(lE r x,BU r (se r x))
def k1 (B:List Bool):(bc:List Nat)->List (aD U.ar)->Option (c4 U bc)
 |[],[]=>some ()
 |t::bc,v::vs=>match U.gu t v B with
  |none=>none
  |some x=>match k1 B bc vs with
   |none=>none
   |some l=>some (sd bc x l)
 | _,_=>none
def GP (m:List (Nat × bC U)):aD U.ar->Option (aD U.ar)
 | .ptr o 0=>match aX m o with
   |some (.cells _ [c])=>match c with
    | .agg _=>none
    |c=>match nP c with
     |some _=>some c
     |none=>none
   |some (.cells _ cs)=>some (.agg cs)
   | _=>none
 | _=>none
def y0:List (aD U.ar)->List Nat->Bool
 |[],_=>true
 | .ptr o _::r,l=>match mem o l with
   |true=>false
   |false=>y0 r (o::l)
 | _::_,_=>false
def sf:List jA->Bool
 |[]=>true
 | .v _::r=>sf r
 | .f .. ::_=>false
def y1 (m:List (Nat × bC U)):List (aD U.ar)->Option (List (aD U.ar))
 |[]=>some []
 |v::r=>match GP m v with
  |none=>none
  |some c=>match y1 m r with
   |none=>none
   |some l=>some (c::l)
def nR:List (eU U)->Nat->Option (eU U)
 |[],_=>none
 |e::r,i=>match Nat.beq e.id i with
  |true=>some e
  |false=>nR r i
def GQ (cx:kc U)(s:a1 U)(c6:List Nat)(rt:Nat):aD U.ar->Option (c4 U c6->Option (U.ar rt))
 | .fv j=>match nth cx.fv j with
   |none=>none
   |some f=>if h:f.c6=c6/\f.rt=rt then some fun z=>h.2 ▸ f.f (h.1 ▸ z)else none
 | .fn i cs=>match nR cx.T i with
   |none=>none
   |some e=>match y1 s.mem cs,y0 cs []with
    |some vs,true=>match k1 s.aB e.caps vs with
     |none=>none
     |some c=>if h:e.args=c6.map jA.v/\e.res=[rt]then some fun z=>(congrArg (fun l=>Option (c4 U l)) h.2).mp (e.fn c (h.1 ▸ BU c6 z))else none
    | _,_=>none
 | _=>none
def qS (cx:kc U)(s:a1 U):(aC:List jA)->List (aD U.ar)->Option (kB U aC)
 |[],[]=>some ()
 | .v t::aC,v::vs=>match U.gu t v s.aB with
   |none=>none
   |some x=>match qS cx s aC vs with
    |none=>none
    |some l=>some (x,l)
 | .f c6 rt::aC,v::vs=>match GQ cx s c6 rt v with
   |none=>none
   |some x=>match qS cx s aC vs with
    |none=>none
    |some l=>some (x,l)
 | _,_=>none
def elems:(bc:List Nat)->c4 U bc->a1 U->(List (aD U.ar)->a1 U->A)->A
 |[],_,s,k=>k [] s
 |t::bc,x,s,k=>elem t (lE bc x) s fun v s=>elems bc (se bc x) s fun vs s=>k (v::vs) s
def BV (bc:List Nat)(x:c4 U bc)(s:a1 U)(k:aD U.ar->a1 U->A):A:=elems bc x s fun vs s=>match vs with
 |[v]=>k v s
 |vs=>k (.aR vs) s
def BW (cx:kc U)(s:a1 U)(f:aD U.ar)(aC:List (aD U.ar))(k:aD U.ar->a1 U->A):A:=match f with
 | .fv j=>match nth cx.fv j with
   |none=>aF.bad
   |some f=>match k1 s.aB f.c6 aC with
    |none=>aF.bad
    |some a=>aF.bL (f.f a) fun r=>elem f.rt r s k
 | .fn i cs=>match nR cx.T i with
   |none=>aF.bad
   |some e=>match y1 s.mem cs,y0 cs [],(match cs with|[]=>true| _=>sf e.args)with
    |some vs,true,true=>match k1 s.aB e.caps vs with
     |none=>aF.bad
     |some c=>match qS cx s e.args aC with
      |none=>aF.bad
      |some a=>aF.bL (e.fn c a) fun r=>BV e.res r s k
    | _,_,_=>aF.bad
 | _=>aF.bad
def gv (o:Nat)(b:bC U):List (Nat × bC U)->List (Nat × bC U)
 |[]=>[]
 |(k,c)::r=>match Nat.beq k o with
  |true=>(k,b)::r
  |false=>(k,c)::gv o b r
def marks (o f:Nat):Nat->List (Nat × Nat)->List (Nat × Nat)
 |0,l=>l
 |n+1,l=>(o,f+n)::marks o f n l
def hJ (s:a1 U)(b:bC U):a1 U:={s with mem:=(s.aA,b)::s.mem,aA:=s.aA+1}
def lF (o:Nat):List (Nat × bC U)->List (Nat × bC U)
 |[]=>[]
 |(k,c)::r=>match Nat.beq k o with
  |true=>r
  |false=>(k,c)::lF o r
def hq (o n:Nat)(b:bC U):List (Nat × bC U)->List (Nat × bC U)
 |[]=>[]
 |(k,c)::r=>match Nat.beq k o with
  |true=>(n,b)::r
  |false=>(k,c)::hq o n b r
def pH (f:List (Nat × bC U)->aD U.ar->Option (aD U.ar × List (Nat × bC U))):List (Nat × bC U)->List (aD U.ar)->Option (List (aD U.ar) × List (Nat × bC U))
 |m,[]=>some ([],m)
 |m,v::r=>match f m v with
  |none=>none
  |some (v',m)=>match pH f m r with
   |none=>none
   |some (l,m)=>some (v'::l,m)
def jy:Nat->List (Nat × bC U)->aD U.ar->Option (aD U.ar × List (Nat × bC U))
 |0,_,_=>none
 |n+1,m,v=>match v with
  | .row o=>match aX m o with
    |some (.row t x)=>some (.sl t x,gv o (.fz t x) m)
    |some (.fz t x)=>some (.sl t x,m)
    | _=>none
  | .agg vs=>match pH (jy n) m vs with
    |some (l,m)=>some (.agg l,m)
    |none=>none
  | .aR vs=>match pH (jy n) m vs with
    |some (l,m)=>some (.aR l,m)
    |none=>none
  | .int k i=>some (.int k i,m)
  | .eS b=>some (.eS b,m)
  | .bo i b=>some (.bo i b,m)
  | .str b=>some (.str b,m)
  | .sl t x=>some (.sl t x,m)
  | .k v=>match bS v with
    |true=>some (.k v,m)
    |false=>none
  | _=>none
mutual
def adt:aD U.ar->Bool
 | .row _=>true
 | .agg vs=>BX vs
 | .aR vs=>BX vs
 | _=>false
def BX:List (aD U.ar)->Bool
 |[]=>false
 |v::r=>match adt v with
  |true=>true
  |false=>BX r
end
def y2:List Nat->Bool
 |[]=>true
 |t::r=>match U.aO t with
  |true=>y2 r
  |false=>false
def GR (cx:kc U)(s:a1 U)(f:aD U.ar)(aC:List (aD U.ar))(k:aD U.ar->a1 U->A):A:=match f with
 | .fn i []=>match nR cx.T i,pH (jy 16) s.mem aC with
   |some e,some (ob,_)=>match k1 s.aB e.caps [],qS cx s e.args ob,sf e.args with
    |some c,some a,true=>aF.bL (e.fn c a) fun r=>BV e.res r s fun v s=>match y2 (U:=U) e.res with
     |true=>k v s
     |false=>match v with
      | .sl _ x=>aF.br s.aB.length x.isNil (k (.k .ak) s) aF.bad
      | _=>aF.bad
    | _,_,_=>aF.bad
   | _,_=>aF.bad
 | _=>aF.bad
def gone (m':List (Nat × bC U)):List (Nat × bC U)->List (Nat × Nat)
 |[]=>[]
 |(o,aJ)::r=>match aJ with
  | .row _ _=>match aX m' o with
    |some (.fz _ _)=>(o,0)::gone m' r
    | _=>gone m' r
  | _=>gone m' r
def GS (cx:kc U)(s:a1 U)(f:aD U.ar)(aC:List (aD U.ar))(k:aD U.ar->a1 U->A):A:=match f with
 | .fn i []=>match nR cx.T i,pH (jy 16) s.mem aC with
   |some e,some (ob,m')=>match k1 s.aB e.caps [],qS cx s e.args ob,sf e.args with
    |some c,some a,true=>aF.bL (e.fn c a) fun r=>BV e.res r s fun v ao=>k v {ao with mem:=m',bU:=gone m' s.mem++ao.bU}
    | _,_,_=>aF.bad
   | _,_=>aF.bad
 | _=>aF.bad
def nS (s:a1 U)(es bytes t:Nat)(x:al (U.ar t))(o:Option Nat)(y:aD U.ar)(k:aD U.ar->a1 U->Bool->A):A:=match Nat.beq (U.es t) es,kZ t y with
 |true,some y=>aF.bL (et bytes x y) fun z=>match o with
  |some o=>k (.row s.aA) {s with mem:=hq o s.aA (.row t z) s.mem,aA:=s.aA+1,bU:=(o,0)::s.bU} true
  |none=>k (.row s.aA) (hJ s (.row t z)) true
 | _,_=>aF.bad
def BZ (s:a1 U)(es bytes t:Nat)(x:aD U.ar)(q:al (U.ar t))(k:aD U.ar->a1 U->Bool->A):A:=match x with
 | .row o=>match aX s.mem o with
   |some (.row dr x)=>nS s es bytes dr x (some o) (.sl t q) k
   | _=>aF.bad
 |x=>match nQ x with
  |some (.k .ak)=>nS s es bytes t .nil none (.sl t q) k
  |some (.k .emp)=>nS s es bytes t .emp none (.sl t q) k
  | _=>aF.bad
def GU:ah->ah->Bool
 | .tmp a,.tmp b=>Nat.beq a b
 | .var a,.var b=>Nat.beq a b
 | .const (.int _ a),.const (.int _ b)=>decide (a=b)
 | _,_=>false
def GV:aD U.ar->Bool
 | .int .. | .eS _| .bo .. | .str _| .sl .. | .ptr .. | .fn .. =>true
 | .k v=>plainCell v
 | _=>false
def B0:List (aD U.ar)->Bool
 |[]=>true
 |v::r=>match GV v with
  |true=>B0 r
  |false=>false
def jj (w:aD U.ar)(f:Nat)(vs:List (aD U.ar)):Option (aD U.ar):=match w with
 | .agg cs=>match Nat.ble (f+vs.length) cs.length with
   |true=>some (.agg (pF cs f vs))
   |false=>none
 | .iH| .row _| .fv _| .k _| .gC .. | .iG .. =>none
 | _=>match f,vs with
   |0,[x]=>some x
   | _,_=>none
def B1 (m:List (Nat × bC U))(o:Nat):Bool:=match aX m o with
 |some (.row ..)=>true
 | _=>false
def GW (m:List (Nat × bC U)):aD U.ar->Option (List (aD U.ar))
 | .row o=>match B1 m o with
   |true=>some [.row o]
   |false=>none
 |v=>nP v
def B2 (m:List (Nat × bC U)):List (aD U.ar)->Bool
 |[]=>true
 |v::r=>match(match v with| .row o=>B1 m o|v=>BP v)with
  |true=>B2 m r
  |false=>false
def GX (aj:h6 U)(s:a1 U)(len:Nat)(parts:List (Nat × ah))(gQ:Bool):Option (Nat × ah):=match len,parts,gQ with
 |1,[(0,x)],true=>match ag aj s x with
  |some (.row o)=>some (o,x)
  | _=>none
 | _,_,_=>none
def GY (U:fW):(bc:List Nat)->c4 U bc->Option ((t:Nat) × al (U.ar t))
 |[s],x=>match U.e7 s x 0 with
  | .sl t y=>some ⟨t,y⟩
  | _=>none
 | _,_=>none
def RH (cx:kc U)(s:a1 U)(e:eU U)(aC:List (aD U.ar))(k:aD U.ar->a1 U->Bool->A):A:=match k1 s.aB e.caps []with
 |none=>aF.bad
 |some c=>match sf e.args,qS cx s e.args aC with
  |true,some a=>aF.bL (e.fn c a) fun r=>match GY U e.res r with
   |some ⟨t,y⟩=>k (.row s.aA) (hJ s (.row t y)) true
   |none=>aF.bad
  | _,_=>aF.bad
def RI (s:a1 U)(p:Nat × Nat)(aC:List (aD U.ar))(k:aD U.ar->a1 U->Bool->A):A:=match p.2 with
 |0=>match aC with
  |[.row o]=>match aX s.mem o with
   |some (.row t x)=>match Nat.beq t p.1 with
    |true=>aF.bL (Rn x) fun z=>k (.k (.aR [])) {s with mem:=gv o (.row t z) s.mem,bU:=(o,0)::s.bU} true
    |false=>aF.bad
   | _=>aF.bad
  |[.k .ak]=>k (.k (.aR [])) s true
  | _=>aF.bad
 |1=>match aC with
  |[.row o,.int RJ a,.int mM c]=>match aX s.mem o with
   |some (.row t x)=>match Nat.beq t p.1,decide (RJ=.i64),decide (mM=.i64)with
    |true,true,true=>aF.bL (Ro x a c) fun z=>k (.sl t z) {s with mem:=lF o s.mem,bU:=(o,0)::s.bU} true
    | _,_,_=>aF.bad
   | _=>aF.bad
  | _=>aF.bad
 | _=>match aC with
   |[v]=>match kZ p.1 v with
    |some x=>aF.bL (wO p.2 x) fun z=>k (.row s.aA) (hJ s (.row p.1 z)) true
    |none=>aF.bad
   | _=>aF.bad
def oper (cx:kc U)(aj:h6 U)(s:a1 U)(d:Option (Nat × Bool))(k:aD U.ar->a1 U->Bool->A):b8->A
 | .alloc z=>k (.ptr s.aA 0) (hJ s (.cells true (wS z))) true
 | .box x=>match ag aj s x with
   |none=>aF.bad
   |some v=>match nP v with
    |none=>aF.bad
    |some cs=>match yW cs with
     |true=>k (.ptr s.aA 0) (hJ s (.cells true cs)) true
     |false=>aF.bad
 | .store n x y=>match ag aj s x,ag aj s y with
   |some (.ptr o f),some v=>match aX s.mem o,GW s.mem v with
    |some (.cells true cs),some vs=>match Nat.beq vs.length n,Nat.ble (f+n) cs.length,B2 s.mem vs with
     |true,true,true=>k (.k .undef) {s with mem:=gv o (.cells true (pF cs f vs)) s.mem,bU:=marks o f vs.length s.bU} true
     | _,_,_=>aF.bad
    | _,_=>aF.bad
   |some (.gC o i f),some v=>match aX s.mem o,nP v with
    |some (.row t a),some vs=>match Nat.beq vs.length n,B0 vs with
     |true,true=>aF.bL (dx a.l i) fun e=>elem t e s fun w s=>match jj w f vs with
      |none=>aF.bad
      |some w=>match U.gu t w s.aB with
       |none=>aF.bad
       |some e'=>k (.k .undef) {s with mem:=gv o (.row t (mf a i e')) s.mem,bU:=(o,0)::s.bU} true
     | _,_=>aF.bad
    | _,_=>aF.bad
   | _,_=>aF.bad
 | .append es bytes a b=>match ag aj s a,ag aj s b with
   |some x,some (.iG o cS hi)=>match aX s.mem o with
    |some (.row t y)=>aF.bL (eT y cS hi) fun q=>BZ s es bytes t x q k
    | _=>aF.bad
   |some x,some (.row o)=>match aX s.mem o with
    |some (.row t y)=>BZ s es bytes t x y k
    | _=>aF.bad
   |some (.row o),some y=>match aX s.mem o with
    |some (.row t x)=>nS s es bytes t x (some o) y k
    | _=>aF.bad
   |some x,some (.sl t y)=>match nQ x with
    |some (.k .ak)=>nS s es bytes t .nil none (.sl t y) k
    |some (.k .emp)=>nS s es bytes t .emp none (.sl t y) k
    | _=>aF.bad
   | _,_=>aF.bad
 | .mkSlice es z bytes l c=>match d with
   |some (q,_)=>match aX cx.ty q,GU l c,ag aj s l with
    |some t,true,some (.int _ n)=>match Nat.beq (U.es t) es,U.gu t (RG z) []with
     |true,some e=>aF.bL (Gs bytes e n) fun x=>k (.row s.aA) (hJ s (.row t x)) true
     | _,_=>aF.bad
    | _,_,_=>aF.bad
   |none=>aF.bad
 | .mkMap=>match d with
   |some (q,_)=>match aX cx.ty q with
    |some c=>match U.mp c with
     |some p=>k (.row s.aA) (hJ s (.mp p.1 p.2 [])) true
     |none=>aF.bad
    |none=>aF.bad
   |none=>aF.bad
 | .mZ kind x i y=>match ag aj s x,ag aj s i,ag aj s y with
   |some (.row o),some v,some w=>match aX s.mem o with
    |some (.mp ek hh m)=>match U.gu ek v s.aB,U.gu hh w s.aB,kindOf (U:=U) ek kind with
     |some x,some y,true=>k (.k .undef) {s with mem:=gv o (.mp ek hh (adr ek hh m x y)) s.mem,bU:=(o,0)::s.bU} true
     | _,_,_=>aF.bad
    | _=>aF.bad
   | _,_,_=>aF.bad
 | .call false f aC=>match ag aj s f,qR aj s aC with
   |some f,some aC=>match BX aC with
    |true=>match(match d with|some (q,_)=>aX cx.ty q|none=>none)with
     |some _=>GS cx s f aC fun v s=>k v s true
     |none=>GR cx s f aC fun v s=>k v s false
    |false=>BW cx s f aC fun v s=>k v s false
   | _,_=>aF.bad
 | .call true f aC=>match ag aj s f,qR aj s aC with
   |some (.fn i []),some aC=>match aX cx.cl i with
    |some p=>RI s p aC k
    |none=>match nR cx.bD i with
     |some e=>RH cx s e aC k
     |none=>aF.bad
   | _,_=>aF.bad
 | .lit es z len parts gQ=>match GX aj s len parts gQ with
   |some (o,_)=>match d with
    |some (q,_)=>match aX cx.ty q,aX s.mem o with
     |some t,some (.row dr x)=>match U.gu t (.sl dr x) s.aB,Nat.beq (U.es t) es with
      |some e,true=>k (.sl t (.mk [e])) {s with mem:=lF o s.mem,bU:=(o,0)::s.bU} true
      | _,_=>aF.bad
     | _,_=>aF.bad
    |none=>aF.bad
   |none=>yY aj s (match d with|some (t,_)=>aX cx.ty t|none=>none) (fun v s=>k v s false) (.lit es z len parts gQ)
 |op=>yY aj s (match d with|some (t,_)=>aX cx.ty t|none=>none) (fun v s=>k v s false) op
def put (aj:h6 U)(s:a1 U)(v:aD U.ar):Option (Nat × Bool)->(h6 U × a1 U)
 |none=>(aj,s)
 |some (t,false)=>((t,v)::aj,s)
 |some (t,true)=>(aj,{s with vs:=(t,v)::s.vs,c3:=t::s.c3})
def so (cx:kc U):List bl->h6 U->a1 U->List Bool->(a1 U->List Bool->A)->A
 |[],aj,s,wr,k=>k s wr.reverse
 |o::r,aj,s,wr,k=>
  let go:=fun s=>oper cx aj s o.dst (fun v s m=>match put aj s v o.dst with|(aj,s)=>so cx r aj s (m::wr) k) o.op;let skip:=fun s=>match put aj s (.aR []) o.dst with|(aj,s)=>so cx r aj s (false::wr) k
  match o.guard with
  |none=>go s
  |some (x,w)=>match ag aj s x with
   |none=>aF.bad
   |some v=>match v with
    | .aR []=>skip s
    |v=>match w with
     |true=>split s v go skip
     |false=>split s v skip go
def GZ (cx:kc U)(aj:h6 U)(s:a1 U)(d:Option (Nat × Bool))(k:aD U.ar->a1 U->A):b8->A
 | .call false f aC=>match ag aj s f,qR aj s aC with
   |some f,some aC=>BW cx s f aC k
   | _,_=>aF.bad
 |op=>yY aj s (match d with|some (t,_)=>aX cx.ty t|none=>none) k op
def qT (cx:kc U):List bl->h6 U->a1 U->(h6 U->a1 U->A)->A
 |[],aj,s,k=>k aj s
 |o::r,aj,s,k=>
  let fin:=fun v s=>match put aj s v o.dst with|(aj,s)=>qT cx r aj s k
  let go:=fun s=>GZ cx aj s o.dst fin o.op
  match o.guard with
  |none=>go s
  |some (x,w)=>match ag aj s x with
   |none=>aF.bad
   |some v=>match v with
    | .aR []=>fin (.aR []) s
    |v=>match w with
     |true=>split s v go (fin (.aR []))
     |false=>split s v (fin (.aR [])) go
inductive Loc where
 |s (t:Nat)
 |m (o j:Nat)
inductive adu (U:fW) where
 |p (t:Nat)
 |c (v:aD U.ar)
 |r (t:Nat)
 |d
abbrev kd (U:fW):=List (Loc × adu U)
def gw:kd U->List Nat
 |[]=>[]
 |(_,.p t)::r=>t::gw r
 |(_,.c _)::r=>gw r
 |(_,.r t)::r=>t::gw r
 |(_,.d)::r=>gw r
def at_ (s:a1 U):Loc->Option (aD U.ar)
 | .s t=>aX s.vs t
 | .m o j=>match aX s.mem o with
   |some (.cells _ cs)=>nth cs j
   | _=>none
mutual
def same:aD U.ar->aD U.ar->Bool
 | .eS a,.eS b=>match a,b with
   |true,true=>true
   |false,false=>true
   | _,_=>false
 | .bo i n,.bo j m=>match Nat.beq i j,n,m with
   |true,true,true=>true
   |true,false,false=>true
   | _,_,_=>false
 | .int k a,.int bJ b=>match decide (k=bJ)with
   |true=>decide (a=b)
   |false=>false
 | .k v,.k w=>de v w
 | .ptr o f,.ptr cC jD=>match Nat.beq o cC with
   |true=>Nat.beq f jD
   |false=>false
 | .fv j,.fv xZ=>Nat.beq j xZ
 | .fn i cs,.fn xv ey=>match Nat.beq i xv with
   |true=>ux cs ey
   |false=>false
 | .agg cs,.agg ey=>ux cs ey
 | .str a,.str b=>decide (a=b)
 | _,_=>false
def ux:List (aD U.ar)->List (aD U.ar)->Bool
 |[],[]=>true
 |a::r,b::s=>match same a b with
  |true=>ux r s
  |false=>false
 | _,_=>false
end
mutual
def wf (n m:Nat):aD U.ar->Bool
 | .bo i _=>Nat.blt i n
 | .ptr o _=>Nat.blt o m
 | .row o=>Nat.blt o m
 | .gC o _ _=>Nat.blt o m
 | .iG o _ _=>Nat.blt o m
 | .agg vs=>uy n m vs
 | .aR vs=>uy n m vs
 | .dp vs _=>uy n m vs
 | .fn _ cs=>uy n m cs
 | _=>true
def uy (n m:Nat):List (aD U.ar)->Bool
 |[]=>true
 |v::r=>match wf n m v with
  |true=>uy n m r
  |false=>false
end
def mN (o j:Nat):List (Nat × Nat)->Bool
 |[]=>false
 |(a,b)::r=>match Nat.beq a o,Nat.beq b j with
  |true,true=>true
  | _,_=>mN o j r
def G0 (c ek hh:Nat)(x:List (U.ar ek × U.ar hh)):Option (U.ar c):=match h:U.mp c with
 |none=>none
 |some p=>if e:p=(ek,hh)then some ((U.RD c (ek,hh) (h.trans (congrArg some e))).symm ▸ x)else none
def B3 (c:Nat)(v:aD U.ar):Option (U.ar c):=match U.mp c with
 |some _=>none
 |none=>U.gu c v []
def rowAt (c:Nat)(x:U.ar c):Option (bC U):=match h:U.mp c with
 |some p=>some (.mp p.1 p.2 (U.RD c p h ▸ x))
 |none=>match U.e7 c x 0 with
  | .sl t y=>some (.row t y)
  | _=>none
def k2 (n m:Nat)(M:List (Nat × Nat))(s:a1 U)(u:List Nat):(sh:kd U)->Option (c4 U (gw sh))
 |[]=>some ()
 |(l,.p t)::r=>match at_ s l with
  |none=>none
  |some v=>match U.gu t v s.aB with
   |none=>none
   |some x=>match k2 n m M s u r with
    |none=>none
    |some y=>some (sd (gw r) x y)
 |(l,.c v)::r=>match at_ s l with
  |none=>none
  |some w=>match same w v,wf n m v with
   |true,true=>k2 n m M s u r
   | _,_=>none
 |(_,.d)::r=>k2 n m M s u r
 |(l,.r c)::r=>match at_ s l with
  |none=>none
  |some v=>match v with
   | .row o=>match aX s.mem o,mem o u,(match Nat.ble m o with|true=>true|false=>mN o 0 M)with
     |some (.row t x),false,true=>match B3 c (.sl t x)with
      |none=>none
      |some x=>match k2 n m M s (o::u) r with
       |none=>none
       |some y=>some (sd (gw r) x y)
     |some (.mp ek hh x),false,true=>match G0 c ek hh x with
      |none=>none
      |some x=>match k2 n m M s (o::u) r with
       |none=>none
       |some y=>some (sd (gw r) x y)
     | _,_,_=>none
   |v=>match nQ v with
    |none=>none
    |some v=>match B3 c v with
     |none=>none
     |some x=>match k2 n m M s u r with
      |none=>none
      |some y=>some (sd (gw r) x y)
def h7 (s:a1 U)(l:Loc)(v:aD U.ar):a1 U:=match l with
 | .s t=>{s with vs:=(t,v)::s.vs}
 | .m o j=>match aX s.mem o with
   |some (.cells w cs)=>{s with mem:=gv o (.cells w (cs.set j v)) s.mem}
   | _=>s
def mO:(sh:kd U)->c4 U (gw sh)->a1 U->a1 U
 |[],_,s=>s
 |(l,.p t)::r,x,s=>mO r (se (gw r) x) (h7 {s with aB:=s.aB++U.oM t (lE (gw r) x)} l (U.e7 t (lE (gw r) x) s.aB.length))
 |(l,.c v)::r,x,s=>mO r x (h7 s l v)
 |(_,.d)::r,x,s=>mO r x s
 |(l,.r c)::r,x,s=>mO r (se (gw r) x) (match rowAt c (lE (gw r) x)with
  |some aJ=>h7 (hJ s aJ) l (.row s.aA)
  |none=>s)
def fX:kd U->List (Nat × Nat)
 |[]=>[]
 |(.m o j,_)::r=>(o,j)::fX r
 | _::r=>fX r
def nT (o:Nat)(M:List (Nat × Nat)):Nat->List (aD U.ar)->List (aD U.ar)
 | _,[]=>[]
 |j,c::r=>(match mN o j M with
  |true=>.iH
  |false=>c)::nT o M (j+1) r
def mP (M:List (Nat × Nat)):List (Nat × bC U)->List (Nat × bC U)
 |[]=>[]
 |(o,b)::r=>match b with
  | .cells w cs=>(o,.cells w (nT o M 0 cs))::mP M r
  |b=>match mN o 0 M with
   |true=>mP M r
   |false=>(o,b)::mP M r
def blank (W:List Nat)(M:List (Nat × Nat))(s:a1 U):a1 U:={s with vs:=(W.map fun t=>(t,.iH))++s.vs,mem:=mP M s.mem}
def eC:kd U->List Nat
 |[]=>[]
 |(.s t,_)::r=>t::eC r
 | _::r=>eC r
def enter (W:List Nat)(M:List (Nat × Nat))(sh:kd U)(x:c4 U (gw sh))(s:a1 U):a1 U:=
 {mO sh x (blank (eC sh++W) (M++fX sh) s)with dh:=[],c3:=eC sh++(W++s.c3),bU:=M++(fX sh++s.bU)}
def y3 (W:List Nat):List Nat->Bool
 |[]=>true
 |t::r=>match mem t W with
  |true=>y3 W r
  |false=>false
def y4 (n:Nat)(M:List (Nat × Nat)):List (Nat × Nat)->Bool
 |[]=>true
 |(o,c)::r=>match Nat.ble n o with
  |true=>y4 n M r
  |false=>match mN o c M with
   |true=>y4 n M r
   |false=>false
def wT (n m:Nat)(W:List Nat)(M:List (Nat × Nat))(sh:kd U)(s:a1 U):Option (c4 U (gw sh)):=match y3 W s.c3 with
 |false=>none
 |true=>match y4 m (M++fX sh) s.bU with
  |true=>k2 n m (M++fX sh) s [] sh
  |false=>none
abbrev sg (U:fW):=List (X × kd U)
def uz:sg U->List (List Nat)
 |[]=>[]
 |(_,sh)::r=>gw sh::uz r
def B4:X->X->Bool
 | .normal,.normal=>true
 | .ret,.ret=>true
 | .exit i,.exit j=>Nat.beq i j
 | _,_=>false
def uA (n m:Nat)(W:List Nat)(M:List (Nat × Nat))(x:X)(s:a1 U):(os:sg U)->Option (uw U (uz os))
 |[]=>none
 |(fA,sh)::r=>match r with
  |[]=>match B4 x fA with
   |true=>wT n m W M sh s
   |false=>none
  |q::r=>match B4 x fA with
   |true=>match wT n m W M sh s with
    |some y=>some (oJ.go y)
    |none=>none
   |false=>match uA n m W M x s (q::r)with
    |some y=>some (oJ.ret y)
    |none=>none
def leave (W:List Nat)(M:List (Nat × Nat))(s:a1 U)(k:X->a1 U->A):(os:sg U)->uw U (uz os)->A
 |[],_=>aF.bad
 |(x,sh)::r,o=>match r,o with
  |[],o=>k x (enter W M sh o s)
  |q::r,o=>match o with
   | .go y=>k x (enter W M sh y s)
   | .ret y=>leave W M s k (q::r) y
inductive h8 (U:fW) where
 |o
 |lt
 |md (n:Nat)
 |two (a b:h8 U)
 |pc (os:sg U) (a b:h8 U)
 |pu (sl:List Nat) (b:h8 U)
 |jz (hd:kd U) (os:sg U) (a:h8 U)
 |pl (a b:h8 U)
def h8.l:h8 U->h8 U
 | .two a _=>a
 | _=>.o
def h8.r:h8 U->h8 U
 | .two _ b=>b
 | _=>.o
def lG:List bl->List Nat
 |[]=>[]
 |o::r=>match o.dst with
  |some (t,true)=>t::lG r
  | _=>lG r
def adv (t:Nat)(l:List Nat):List Nat:=match mem t l with
 |true=>l
 |false=>t::l
def B5:List Nat->List Nat->List Nat
 |[],l=>l
 |t::r,l=>B5 r (adv t l)
def hK:bP->List Nat
 | .region ops _=>B5 (lG ops) []
 | .sT ops _ _=>lG ops
 | .seq a b=>B5 (hK a) (hK b)
 | .cond _ a b=>B5 (hK a) (hK b)
 | .block _ a=>hK a
 | .loop a=>hK a
 | _=>[]
inductive qU where
 |lit (b:Bool)
 |nm (i:Nat) (neg:Bool) (b:Bool)
 |tm (b:Bool)
def qU.val:qU->Bool
 | .lit b=>b
 | .nm _ _ b=>b
 | .tm b=>b
def y5 (c:Bool)(x y:qU):qU:=match x,y with
 | .nm i n a,.nm j m b=>match Nat.beq i j,n,m with
   |true,true,true=>.nm i n (bif c then a else b)
   |true,false,false=>.nm i n (bif c then a else b)
   | _,_,_=>.tm (bif c then a else b)
 | .lit true,.lit true=>.lit true
 | .lit false,.lit false=>.lit false
 | .lit true,.lit false=>.tm c
 |x,.lit false=>.tm (c&&x.val)
 | .lit true,y=>.tm (c||y.val)
 |x,y=>.tm (bif c then x.val else y.val)
inductive RL (U:fW) where
 |v (v:aD U.ar)
 |b (b:qU)
 |bad
def mx (l:Loc):lD (a1 U)->RL U
 | .bad=>.bad
 | .leaf s=>match at_ s l with
   |none=>.bad
   |some v=>match v with
    | .eS b=>.b (.lit b)
    | .bo i n=>match sc s (.bo i n)with
      |some b=>.b (.nm i n b)
      |none=>.bad
    |v=>.v v
 | .br _ c t e=>match mx l t,mx l e with
   | .b x,.b y=>.b (y5 c x y)
   | .v (.int k a),.v (.int bJ b)=>match decide (k=bJ)with
     |true=>.v (.int k (bif c then a else b))
     |false=>.bad
   | .v (.str a),.v (.str b)=>.v (.str (bif c then a else b))
   | .v v,.v w=>match same v w with
     |true=>.v w
     |false=>.bad
   | _,_=>.bad
def pI (n m:Nat)(p:lD (a1 U)):List Nat->a1 U->(a1 U->A)->A
 |[],s,k=>k s
 |t::r,s,k=>match mx (.s t) p with
  | .v v=>match wf n m v with
    |true=>pI n m p r {s with vs:=(t,v)::s.vs} k
    |false=>aF.bad
  | .b x=>match x with
    | .lit b=>pI n m p r {s with vs:=(t,.eS b)::s.vs} k
    | .nm i neg b=>match Nat.blt i n with
      |true=>pI n m p r {s with vs:=(t,.bo i neg)::s.vs} k
      |false=>pI n m p r {s with vs:=(t,.bo s.aB.length false)::s.vs,aB:=s.aB++[b]} k
    | .tm b=>pI n m p r {s with vs:=(t,.bo s.aB.length false)::s.vs,aB:=s.aB++[b]} k
  | .bad=>aF.bad
def wU (W:List Nat):lD (a1 U)->Bool
 | .bad=>false
 | .leaf s=>match y3 W s.c3,s.bU with
   |true,[]=>true
   | _,_=>false
 | .br _ _ t e=>match wU W t with
   |true=>wU W e
   |false=>false
def fresh (s:a1 U):a1 U:={s with dh:=[],c3:=[],bU:=[]}
def B6 (dw:Option (List Nat))(ops:List bl)(wr:List Bool)(a:A):A:=match dw with
 |none=>a
 |some dw=>match p7 dw ops wr with
  |true=>a
  |false=>aF.bad
def B7 (n:Nat):List (Nat × bC U)->Bool
 |[]=>true
 |e::r=>match Nat.ble n e.1 with
  |true=>B7 n r
  |false=>false
def G1 (dw:List Nat)(ops:List bl)(wr:List Bool)(n:Nat)(m:List (Nat × bC U))(a:A):A:=match rl dw ops wr,B7 n m with
 |true,true=>a
 | _,_=>aF.bad
def qV (cx:kc U):List bl->h6 U->a1 U->List (Nat × bC U)->List Bool->(h6 U->a1 U->List (Nat × bC U)->List Bool->A)->A
 |[],aj,s,p,w,k=>k aj s p w
 |o::r,aj,s,p,w,k=>match o with
  |⟨d,.call true f aC,none⟩=>match ag aj s f,qR aj s aC with
   |some (.fn i []),some [v]=>match aX cx.cl i with
    |some q=>match kZ q.1 v,Nat.blt 1 q.2 with
     |some x,true=>aF.bL (wO q.2 x) fun z=>match put aj {s with aA:=s.aA+1} (.row s.aA) d with
      |(aj,s1)=>qV cx r aj s1 ((s.aA,.row q.1 z)::p) (w++[true]) k
     | _,_=>aF.bad
    |none=>aF.bad
   | _,_=>aF.bad
  |⟨d,.append es bytes a b,none⟩=>match ag aj s a,ag aj s b with
   |some x,some (.iG o cS hi)=>match aX s.mem o,nQ x with
    |some (.row t y),some (.k .emp)=>match Nat.beq (U.es t) es with
     |true=>aF.bL (eT y cS hi) fun q=>aF.bL (et bytes .emp q) fun z=>match put aj {s with aA:=s.aA+1} (.row s.aA) d with
      |(aj,s1)=>qV cx r aj s1 ((s.aA,.row t z)::p) (w++[true]) k
     |false=>aF.bad
    | _,_=>aF.bad
   |some (.row o),some y=>match aX p o with
    |some (.row t x)=>match Nat.beq (U.es t) es,kZ t y with
     |true,some y=>aF.bL (et bytes x y) fun z=>match put aj {s with aA:=s.aA+1} (.row s.aA) d with
      |(aj,s1)=>qV cx r aj s1 (hq o s.aA (.row t z) p) (w++[true]) k
     | _,_=>aF.bad
    | _=>aF.bad
   |some x,some (.sl t y)=>match Nat.beq (U.es t) es,nQ x with
    |true,some (.k .emp)=>aF.bL (et bytes .emp y) fun z=>match put aj {s with aA:=s.aA+1} (.row s.aA) d with
     |(aj,s1)=>qV cx r aj s1 ((s.aA,.row t z)::p) (w++[true]) k
    | _,_=>aF.bad
   | _,_=>aF.bad
  |o=>qT cx [o] aj s fun aj s=>qV cx r aj s p (w++[false]) k
def RM (cx:kc U)(dw:List Nat)(ops:List bl)(n:Nat)(s:a1 U)(k:a1 U->A):A:=
 qV cx (ops.take n) [] s [] [] fun aj s p w=>so cx (ops.drop n) aj {s with mem:=p++s.mem} w.reverse fun ao wr=>match wP dw ops w wr with
  |true=>k ao
  |false=>aF.bad
def RN (W:List Nat)(s:a1 U)(sl:List Nat)(p:lD (a1 U))(k:a1 U->A):A:=match wU W p with
 |true=>pI s.aB.length s.aA p sl {blank W [] s with c3:=sl++(W++s.c3)} k
 |false=>aF.bad
noncomputable def B8 (f:h8 U->{A:Type}->[aF A]->a1 U->(X->a1 U->A)->A)(W:List Nat)(hd:kd U)(os:sg U)(x:h8 U)(s:a1 U)(k:X->a1 U->A):A:=match k2 s.aB.length s.aA (fX hd) s [] hd with
 |none=>aF.bad
 |some pJ=>aF.bL (c0 (fun st=>f x (A:=Option (hf (c4 U (gw hd)) (uw U (uz os)))) (fresh (enter W [] hd st s)) fun x ao=>match x with
   | .normal=>match wT s.aB.length s.aA W [] hd ao with
     |some y=>some (.next y)
     |none=>none
   |x=>match uA s.aB.length s.aA (eC hd++W) (fX hd) x ao os with
    |some y=>some (.out y)
    |none=>none) pJ) fun o=>
  leave (eC hd++W) (fX hd) s k os o
noncomputable def h9 (cx:kc U):bP->h8 U->{A:Type}->[aF A]->a1 U->(X->a1 U->A)->A
 | .skip,_,_,_,s,k=>k .normal s
 | .ret,_,_,_,s,k=>k .ret s
 | .exit i,_,_,_,s,k=>k (.exit i) s
 | .region ops dw,an,_,_,s,k=>match an,dw with
   | .lt,some dw=>qT cx (ops.take (im ops)) [] s fun aj s=>so cx (ops.drop (im ops)) aj {s with mem:=[]} (List.replicate (im ops) false) fun ao wr=>G1 dw ops wr s.aA ao.mem (k .normal {ao with mem:=ao.mem++s.mem})
   | .md n,some dw=>RM cx dw ops n s fun s=>k .normal s
   | _,dw=>so cx ops [] s [] fun s wr=>B6 dw ops wr (k .normal s)
 | .seq a b,an,_,_,s,k=>match an with
   | .pc os x y=>aF.bL (h9 cx a x (A:=Option (uw U (uz os))) (fresh s) fun x ao=>uA s.aB.length s.aA (hK a) [] x ao os) fun o=>
     leave (hK a) [] s (fun x ao=>match x with
      | .normal=>h9 cx b y ao k
      |x=>k x ao) os o
   | .pu sl y=>match a with
     | .region ops dw=>RN (lG ops) s sl (so cx ops [] {s with c3:=[],bU:=[]} [] fun s wr=>B6 dw ops wr (lD.leaf s)) fun ao=>h9 cx b y ao k
     | _=>aF.bad
   |an=>h9 cx a an.l s fun x s=>match x with
    | .normal=>h9 cx b an.r s k
    |x=>k x s
 | .cond c a b,an,_,_,s,k=>match ag [] s c with
   |none=>aF.bad
   |some v=>split s v (fun s=>h9 cx a an.l s k) (fun s=>h9 cx b an.r s k)
 | .block id a,an,_,_,s,k=>h9 cx a an s fun x s=>k (wJ id x) s
 | .loop a,an,_,_,s,k=>match an with
   | .jz hd os x=>B8 (fun an {_:Type} [aF _] s k=>h9 cx a an s k) (hK a) hd os x s k
   | .pl x (.jz hd os y)=>h9 cx a x s fun e ao=>match e with
     | .normal=>B8 (fun an {_:Type} [aF _] s k=>h9 cx a an s k) (hK a) hd os y ao k
     |e=>k e ao
   | _=>aF.bad
 | _,_,_,_,_,_=>aF.bad
def uB:(aC:List jA)->kB U aC->Nat->a1 U->List (yZ U)->a1 U × List (yZ U)
 |[],_,_,s,f=>(s,f)
 | .v t::r,x,j,s,f=>uB r x.2 (j+1) {s with vs:=(j,U.e7 t x.1 s.aB.length)::s.vs,aB:=s.aB++U.oM t x.1} f
 | .f c6 rt::r,x,j,s,f=>uB r x.2 (j+1) {s with vs:=(j,.fv f.length)::s.vs} (f++[⟨c6,rt,x.1⟩])
def B9:(cs:List Nat)->c4 U cs->Nat->a1 U->Option (a1 U)
 |[],_,_,s=>some s
 |t::r,x,j,s=>match nP (U.e7 t (lE r x) s.aB.length)with
  |none=>none
  |some cs=>B9 r (se r x) (j+1) {s with vs:=(j,.ptr s.aA 0)::s.vs,mem:=s.mem++[(s.aA,.cells false cs)],aA:=s.aA+1,aB:=s.aB++U.oM t (lE r x)}
def y6 (s:a1 U):List ki->Option (List (aD U.ar))
 |[]=>some []
 |r::rs=>match(match r with
   | .tmp t=>aX s.vs t
   | .cell a sh=>match aX s.vs a with
     |some (.ptr o f)=>match aX s.mem o with
      |some (.cells _ cs)=>cut cs f sh
      | _=>none
     | _=>none)with
  |none=>none
  |some v=>match y6 s rs with
   |none=>none
   |some l=>some (v::l)
def G2 (s:a1 U)(res:List Nat)(vs:List (aD U.ar)):Option (c4 U res):=match vs with
 |[v]=>match jy 16 s.mem v with
  |some (v,_)=>k1 s.aB res [v]
  |none=>none
 |vs=>match pH (jy 15) s.mem vs with
  |some (vs,_)=>k1 s.aB res vs
  |none=>none
def pJ:a1 U:=⟨[],[],0,[],[],[],[]⟩
noncomputable def Ca (T:List (eU U))(ty:List (Nat × Nat))(cl:List (Nat × Nat × Nat))(bD:List (eU U))(f:gR)(an:h8 U)(caps:List Nat)(args:List jA)(res:List Nat)(c:c4 U caps)(a:kB U args):Option (c4 U res):=
 match uB args a 0 pJ []with
 |(s,fv)=>match B9 caps c args.length s with
  |none=>none
  |some s=>h9 ⟨T,fv,ty,cl,bD⟩ f.body an s fun x s=>match x with
   | .exit _=>none
   | _=>match y6 s f.results with
     |some vs=>G2 s res vs
     |none=>none
def qW{ar:Nat->Type}(k:IntKind):aD ar->Option Int
 | .int bJ n=>match decide (bJ=k)with
   |true=>some n
   |false=>none
 | _=>none
def G3{ar:Nat->Type}(B:List Bool):aD ar->Option Bool
 | .eS b=>some b
 | .bo i neg=>match nth B i with
   |some c=>match neg with
    |false=>some c
    |true=>some (!c)
   |none=>none
 | _=>none
def G4{ar:Nat->Type}:aD ar->Option mK
 | .str s=>some s
 | _=>none
def y7{ar:Nat->Type}{R:Type}(f:List (aD ar)->Option R):aD ar->Option R
 | .agg vs=>f vs
 | _=>none
end
end Go.Abs.fM
set_option maxHeartbeats 2000000
namespace Go.Abs.cb
open Go Go.Abs
structure Term where
 Cell:Int
 cV:Int
 deriving Inhabited
def jU (x:Term):V:=.agg [iF x.Cell,iF x.cV]
@[simp] theorem adw (x : Term) : bS (jU x) = true := by simp [jU, bS, cB]
@[simp] theorem adx (x : Term) : b7 (aL (jU x)) = true := by simp [jU, aL, b7]
structure Change where
 Cell:Int
 Add:Int
 deriving Inhabited
def lH (x:Change):V:=.agg [iF x.Cell,iF x.Add]
@[simp] theorem ady (x : Change) : bS (lH x) = true := by simp [lH, bS, cB]
@[simp] theorem adz (x : Change) : b7 (aL (lH x)) = true := by simp [lH, aL, b7]
structure Row where
 lI:(al Term)
 RO:Int
 deriving Inhabited
def y8 (x:Row):V:=.agg [b4 2 jU x.lI,iF x.RO]
@[simp] theorem adA (x : Row) : bS (y8 x) = true := by simp [y8, bS, cB]
@[simp] theorem adB (x : Row) : b7 (aL (y8 x)) = true := by simp [y8, aL, b7]
end Go.Abs.cb
namespace Go.Abs.cb
open Go Go.Abs Go.Abs.fM
def nU:Nat->Type
 |0=>Int
 |1=>Bool
 |2=>mK
 |3=>Int
 |4=>Term
 |5=>(al Term)
 |6=>Change
 |7=>(al Change)
 |8=>(al (al Change))
 |9=>Row
 | _=>Unit
def adC:Nat->Nat
 |4=>2
 |6=>2
 |9=>2
 | _=>1
def adD:(t:Nat)->nU t->V
 |0,x=>iF x
 |1,x=>V.bool x
 |2,x=>V.str x
 |3,x=>(V.int .u8) x
 |4,x=>jU x
 |5,x=>(b4 2 jU) x
 |6,x=>lH x
 |7,x=>(b4 2 lH) x
 |8,x=>(b4 1 (b4 2 lH)) x
 |9,x=>y8 x
 | _,_=>.ak
def adE:(t:Nat)->nU t->Nat->aD nU
 |0,x,n=>.int .i64 x
 |1,x,n=>.bo n false
 |2,x,n=>.str x
 |3,x,n=>.int .u8 x
 |4,x,n=>.agg [.int .i64 x.Cell,.int .i64 x.cV]
 |5,x,n=>.sl 4 x
 |6,x,n=>.agg [.int .i64 x.Cell,.int .i64 x.Add]
 |7,x,n=>.sl 6 x
 |8,x,n=>.sl 7 x
 |9,x,n=>.agg [.sl 4 x.lI,.int .i64 x.RO]
 | _,_,_=>.k .ak
def adF:(t:Nat)->nU t->List Bool
 |1,x=>[x]
 | _,_=>[]
def adG:(t:Nat)->aD nU->List Bool->Option (nU t)
 |0,v,B=>qW .i64 v
 |1,v,B=>G3 B v
 |2,v,B=>G4 v
 |3,v,B=>qW .u8 v
 |4,v,B=>y7 (fun vs=>match vs with
  |[jc,c1]=>(qW .i64 jc).bind fun gX=>(qW .i64 c1).bind fun mh=>some ⟨gX,mh⟩
  | _=>none) v
 |5,v,B=>kZ 4 v
 |6,v,B=>y7 (fun vs=>match vs with
  |[jc,c1]=>(qW .i64 jc).bind fun gX=>(qW .i64 c1).bind fun mh=>some ⟨gX,mh⟩
  | _=>none) v
 |7,v,B=>kZ 6 v
 |8,v,B=>kZ 7 v
 |9,v,B=>y7 (fun vs=>match vs with
  |[jc,c1]=>(kZ 4 jc).bind fun gX=>(qW .i64 c1).bind fun mh=>some ⟨gX,mh⟩
  | _=>none) v
 | _,_,_=>none
def adH (t:Nat):Bool:=match t with
 |0=>true
 |1=>true
 |2=>true
 |3=>true
 | _=>false
def G5:Nat->Option Nat
 |0=>some 0
 |2=>some 1
 | _=>none
def adI:(t:Nat)->nU t->nU t->Bool
 |0,a,c=>@BEq.beq Int _ a c
 |2,a,c=>@BEq.beq mK _ a c
 | _,_,_=>false
def G6:Nat->Option (Nat × Nat)
 | _=>none
theorem adJ (c:Nat)(p:Nat × Nat)(h:G6 c=some p):nU c=List (nU p.1 × nU p.2):=by
 unfold G6 at h;split at h<;>cases h<;>rfl
abbrev gx:fW:=⟨nU,adC,adD,adE,adF,adG,adH,G5,adI,G6,adJ⟩
end Go.Abs.cb
namespace Go.Abs
open Go
def pK (x y:Int × Int):Bool:=decide (x.1<=y.1)
def jV (l:List (Int × Int)):List (Int × Int):=l.mergeSort pK
theorem qX (l:List (Int × Int)):(jV l).Perm l:=List.mergeSort_perm ..
theorem G7 (l:List (Int × Int)):(jV l).Pairwise fun x y=>pK x y=true:=
 List.pairwise_mergeSort (fun a b c h1 h2=>by unfold pK at *; simp only[decide_eq_true_eq]at *; omega) (fun a b=>by unfold pK;simp only[iO,decide_eq_true_eq];omega) l
theorem adK{l:List (Int × Int)}(hn:(l.map (·.1)).Nodup){a b:Int × Int}(ha:a∈l)(hb:b∈l)(h:a.1=b.1):a=b:=by
 induction l with
 |nil=>cases ha
 |cons x l ih=>
  rw[cW,n4]at hn;rw[cY]at ha hb;rcases ha with rfl|ha
  ·rcases hb with rfl|hb
   ·rfl
   ·exact(hn.1 (dn.2 ⟨b,hb,h.symm⟩)).elim
  ·rcases hb with rfl|hb
   ·exact(hn.1 (dn.2 ⟨a,ha,h⟩)).elim
   ·exact ih hn.2 ha hb
theorem RP{l d:List (Int × Int)}(hn:(l.map (·.1)).Nodup)(hp:d.Perm l)(hs:d.Pairwise fun x y=>pK x y=true):d=jV l:=by
 refine List.Perm.eq_of_pairwise (le:=fun x y=>pK x y=true) (fun a b ha hb h1 h2=> ?_) hs (G7 l) (hp.trans (qX l).symm);unfold pK at h1 h2;simp only[decide_eq_true_eq]at h1 h2;exact adK hn (hp.mem_iff.1 ha) ((qX l).mem_iff.1 hb) (by omega)
theorem G8 (l:List (Int × Int)):(jV l).length=l.length:=(qX l).length_eq
def uC (k:Int):List (Int × Int)->Option Int
 |[]=>none
 |(j,v)::l=>if k=j then some v else uC k l
def jj (k v:Int):List (Int × Int)->List (Int × Int)
 |[]=>[(k,v)]
 |(j,u)::l=>if k=j then(k,v)::l else(j,u)::jj k v l
def k3 (es:List (Int × Int))(t:Int × Int):List (Int × Int):=jj t.1 (ck ((uC t.1 es).getD 0+t.2)) es
def gi (l:List (Int × Int)):List (Int × Int):=l.foldl k3 []
def e0 (l:List (Int × Int)):List (Int × Int):=jV ((gi l).filter fun p=>p.2 != 0)
theorem RQ{k v:Int}:∀{es:List (Int × Int)},(jj k v es).map Prod.fst=if k∈es.map Prod.fst then es.map Prod.fst else es.map Prod.fst++[k]
 |[]=>by simp[jj]
 |(j,u)::es=>by
  simp only[jj];by_cases h:k=j
  ·subst h;simp
  ·have ih:=RQ (k:=k) (v:=v) (es:=es)
   rw[if_neg h];simp only[cW,ih,cY,h,false_or];split<;>simp
theorem RR{k v:Int}{es:List (Int × Int)}(h:(es.map Prod.fst).Nodup):((jj k v es).map Prod.fst).Nodup:=by
 rw[RQ];split
 ·exact h
 ·rename_i hk
  rw[ra];refine⟨h,by simp,fun a ha b hb=> ?_⟩;rw[oZ]at hb;subst hb;exact fun e=>hk (e ▸ ha)
theorem RS:∀(l es:List (Int × Int)),(es.map Prod.fst).Nodup->((l.foldl k3 es).map Prod.fst).Nodup
 |[],es,h=>h
 |t::l,es,h=>RS l _ (RR h)
theorem RT (l:List (Int × Int)):((gi l).map Prod.fst).Nodup:=RS l [] (by simp)
theorem RU{k v:Int}:∀{es:List (Int × Int)},(jj k v es).length<=es.length+1
 |[]=>by simp[jj]
 |(j,u)::es=>by
  simp only[jj];split
  ·simp
  ·have:=RU (k:=k) (v:=v) (es:=es)
   simp only[iN];omega
theorem RV:∀(l es:List (Int × Int)),(l.foldl k3 es).length<=es.length+l.length
 |[],es=>by simp
 |t::l,es=>by
  have:=RV l (k3 es t);have h2:(k3 es t).length<=es.length+1:=RU;simp only[xl,iN];omega
theorem RW (l:List (Int × Int)):(gi l).length<=l.length:=by
 have:=RV l [];simpa[gi]using this
theorem RX{l:List (Int × Int)}(h:(l.map Prod.fst).Nodup)(q:Int × Int->Bool):((l.filter q).map Prod.fst).Nodup:=h.sublist ((List.filter_sublist).map _)
end Go.Abs
namespace Go.Abs.cb
open Go Go.Abs
noncomputable section
def G9:Option Bool:=some true
def mQ (l:List (Int × Int)):al Term:=if l.isEmpty then .nil else .mk (l.map fun p=>⟨p.1,p.2⟩)
def qY (x:al Term):Option (al Term):=if x.l.length<1073741824 then some (mQ (e0 (x.l.map fun t=>(t.Cell,t.cV))))else none
end
end Go.Abs.cb
namespace Go.Abs.fM
open Go Go.Abs
structure jB {A:Type} [aF A] (S:A->Prop):Prop where
 bad:¬S aF.bad
 br:∀{i:Nat} {c:Bool} {x y:A},S (aF.br i c x y)->(c=true/\S x)\/(c=false/\S y)
 bL:∀{α:Type} {o:Option α} {f:α->A},S (aF.bL o f)->∃x,o=some x/\S (f x)
theorem Ha{R:Type}(r:R):jB (A:=Option R) (fun a=>a=some r) where
 bad:=fun h=>by cases h
 br:=fun h=>Q2 h
 bL:=fun h=>bind_some h
def lD.val{R:Type}:lD R->Option R
 | .leaf a=>some a
 | .br _ c t e=>bif c then t.val else e.val
 | .bad=>none
theorem adL{R:Type}(r:R):jB (A:=lD R) (fun a=>a.val=some r) where
 bad:=fun h=>by cases h
 br:=fun h=>Q2 h
 bL:=fun h=>by cases h
section
variable{U:fW}
def lJ (U:fW)(b:Nat)(B:List Bool)(ρ fs:List V)(o:Nat)(m:List (Nat × bd)):bC U->Prop
 | .cells w cs=>∃a ws,ρ[o]? =some (.ptr a 0)/\m=[(a,.cells ws)]/\bT U B ρ fs cs ws/\(w=true->b<=a)
 | .row t s=>∃v,ρ[o]? =some v/\dS b (U.es t) (U.enc t) v s m
 | .fz t s=>∃v m0,ρ[o]? =some v/\dS b (U.es t) (U.enc t) v s m0/\(m=m0\/m=Go.Abs.jy m0)
 | .mp k w x=>∃a,ρ[o]? =some (.map a)/\m=[(a,.map (mg (U.enc k) (U.enc w) x))]/\b<=a
def cK (s:a1 U)(G:Nat->List (Nat × bd))(F:bV):bV:=s.mem.map (fun e=>G e.1)++F
structure bB (U:fW) (b:Nat) (F:bV) (fs:List V) (s:a1 U) (σ:bt) (H:Heap) (G:Nat->List (Nat × bd)) (ρ:List V):Prop where
 aA:ρ.length=s.aA
 vs:∀t v,aX s.vs t=some v->bp U s.aB ρ fs v (σ t)
 own:Own H (cK s G F)
 cI:(s.mem.map Prod.fst).Nodup
 lt:∀e∈s.mem,e.1<s.aA
 mem:∀o aJ,aX s.mem o=some aJ->lJ U b s.aB ρ fs o (G o) aJ
 dh:∀i β,aX s.dh i=some β->s.aB[i]? =some β
structure gN (s ao:a1 U):Prop where
 vs:ao.vs=s.vs
 mem:ao.mem=s.mem
 aA:ao.aA=s.aA
 c3:ao.c3=s.c3
 bU:ao.bU=s.bU
 aB:s.aB <+: ao.aB
 dh:(∀i β,aX s.dh i=some β->s.aB[i]? =some β)->∀i β,aX ao.dh i=some β->ao.aB[i]? =some β
theorem gN.rfl{s:a1 U}:gN s s:=⟨Eq.refl _,Eq.refl _,Eq.refl _,Eq.refl _,Eq.refl _,db,fun h=>h⟩
theorem gN.trans{s ao y9:a1 U}(h:gN s ao)(k:gN ao y9):gN s y9:=
 ⟨k.vs.trans h.vs,k.mem.trans h.mem,k.aA.trans h.aA,k.c3.trans h.c3,k.bU.trans h.bU,h.aB.trans k.aB,fun q=>k.dh (h.dh q)⟩
variable{b:Nat}{F:bV}{fs:List V}{s ao:a1 U}{σ aM:bt}{H:Heap}{G:Nat->List (Nat × bd)}{ρ:List V}{aj:h6 U}{call:cj}
theorem lJ.mono{B oN:List Bool}{b2:List V}(cw:B <+: oN)(aE:ρ <+: b2){o:Nat}{m:List (Nat × bd)}:∀{aJ:bC U},lJ U b B ρ fs o m aJ->lJ U b oN b2 fs o m aJ
 | .cells w cs,⟨a,ws,h1,h2,aq,bf⟩=>⟨a,ws,ji aE h1,h2,aq.mono cw aE,bf⟩
 | .row t s,⟨v,h1,h2⟩=>⟨v,ji aE h1,h2⟩
 | .fz t s,⟨v,m0,h1,h2⟩=>⟨v,m0,ji aE h1,h2⟩
 | .mp k w x,⟨a,h1,h2⟩=>⟨a,ji aE h1,h2⟩
theorem bB.eg (R:bB U b F fs s σ H G ρ)(k:gN s ao):bB U b F fs ao σ H G ρ where
 aA:=by rw[k.aA];exact R.aA
 vs:=fun t v h=>by rw[k.vs]at h;exact(R.vs t v h).mono k.aB db
 own:=by have:=R.own;unfold cK at this⊢; rw[k.mem];exact this
 cI:=by rw[k.mem];exact R.cI
 lt:=by rw[k.mem,k.aA];exact R.lt
 mem:=fun o aJ h=>by rw[k.mem]at h;exact(R.mem o aJ h).mono k.aB db
 dh:=k.dh R.dh
theorem gD{α:Type}{l:List (Nat × α)}{t:Nat}{a:α}(h:aX l t=some a):(t,a)∈l:=by
 induction l with
 |nil=>cases h
 |cons p l ih=>
  obtain⟨k,c⟩:=p;rw[eG]at h;split at h
  ·rename_i e;cases h;subst e;simp
  ·exact ie _ (ih h)
theorem bB.at (R:bB U b F fs s σ H G ρ){o:Nat}{aJ:bC U}(h:aX s.mem o=some aJ):∃k,(cK s G F)[k]? =some (G o)/\k<s.mem.length/\∃hk:k<s.mem.length,s.mem[k].1=o:=by
 obtain⟨k,hk,e⟩:=List.mem_iff_getElem.1 (gD h);refine⟨k,?_,hk,hk,by rw[e]⟩;unfold cK;rw[ft (by simpa using hk),iM,gk hk,e];rfl
theorem bB.cells (R:bB U b F fs s σ H G ρ){o:Nat}{w:Bool}{cs:List (aD U.ar)}(h:aX s.mem o=some (.cells w cs)):
  ∃a ws,ρ[o]? =some (.ptr a 0)/\G o=[(a,.cells ws)]/\(∀H',Own H' (cK s G F)->H'[a]? =some (.cells ws))/\bT U s.aB ρ fs cs ws/\(w=true->b<=a):=by
 obtain⟨a,ws,h1,h2,aq,bf⟩:=R.mem o _ h;obtain⟨k,hk,-⟩:=R.at h;exact⟨a,ws,h1,h2,fun H' hO=>hO.get k (by rw[hk,h2]),aq,bf⟩
mutual
theorem Cb{B:List Bool}:∀v:V,bp U B ρ fs (yV v) v
 | .bool _=>.eS
 | .int _ _=>.int
 | .str _=>.str
 | .agg vs=>.agg (za vs)
 | .ak| .emp| .list _ _| .aR _| .gy| .ptr _ _| .fm .. | .dp _ _| .aN .. | .hQ| .map _| .ik| .fn _ _ _| .yield _| .gP| .iface _ _| .undef=>.k
theorem za{B:List Bool}:∀vs:List V,bT U B ρ fs (wS vs) vs
 |[]=>.nil
 |v::r=>.cons (Cb v) (za r)
end
theorem uD{B:List Bool}{v:aD U.ar}{w:V}{cs:List (aD U.ar)}(h:nP v=some cs)(ad:bp U B ρ fs v w):bT U B ρ fs cs (aL w):=by
 cases ad<;>simp only[nP]at h
 case agg h'=>cases h;exact h'
 case aR=>cases h
 case row=>cases h
 case gC=>cases h
 case iG=>cases h
 case fv=>cases h
 case iH=>cases h
 case k=>
  split at h
  ·cases h
  ·cases h
   cases w<;>first|exact .cons .k .nil|simp_all
 case sl=>cases h;rw[Q3];exact .cons .sl .nil
 all_goals cases h
 ·exact .cons .int .nil
 ·exact .cons .eS .nil
 ·rename_i h';exact .cons (.bo h') .nil
 ·exact .cons .str .nil
 ·rename_i h';exact .cons (.dp h') .nil
 ·rename_i h';exact .cons (.ptr h') .nil
 ·rename_i h';exact .cons (.fn h') .nil
theorem RY{B:List Bool}{v:aD U.ar}{w:V}(h:BP v=true)(ad:bp U B ρ fs v w):e1 w=true:=by
 cases ad<;>simp only[BP]at h<;>first|rfl|exact acw _ _ _|exact h|cases h
theorem Hb{B:List Bool}:∀{cs:List (aD U.ar)} {ws:List V},yW cs=true->bT U B ρ fs cs ws->b7 ws=true
 | _,_,_,.nil=>rfl
 | _,_,h,.cons h' r=>by
   simp only[yW]at h;split at h
   ·rename_i e;simp only[b7,RY e h',Hb h r,z1]
   ·cases h
theorem RZ (R:bB U b F fs s σ H G ρ){o:Nat}{w:V}(h:B1 s.mem o=true)(ad:bp U s.aB ρ fs (.row o) w):aL w=[w]/\e1 w=true:=by
 unfold B1 at h;split at h
 ·rename_i hm
  obtain⟨v,h1,h2⟩:=R.mem _ _ hm;cases ad with
  |row aq=>
   rw[h1]at aq;cases aq;exact⟨h2.cells,h2.e1⟩
 ·cases h
theorem adM (R:bB U b F fs s σ H G ρ){v:aD U.ar}{w:V}{cs:List (aD U.ar)}(h:GW s.mem v=some cs)(ad:bp U s.aB ρ fs v w):bT U s.aB ρ fs cs (aL w):=by
 unfold GW at h;split at h
 ·split at h
  ·rename_i e
   cases h;rw[(RZ R e ad).1];exact .cons ad .nil
  ·cases h
 ·exact uD h ad
theorem R0 (R:bB U b F fs s σ H G ρ):∀{cs:List (aD U.ar)} {ws:List V},B2 s.mem cs=true->bT U s.aB ρ fs cs ws->b7 ws=true
 | _,_,_,.nil=>rfl
 | _,_,h,.cons (w:=w) h' r=>by
   unfold B2 at h;split at h
   ·rename_i e
    have:e1 w=true:=by
     split at e
     ·exact(RZ R e h').2
     ·exact RY e h'
    simp only[b7,this,R0 R h r,z1]
   ·cases h
theorem zb{B:List Bool}{cs:List (aD U.ar)}{ws:List V}{off:Nat}{sh:Option Nat}{v:aD U.ar}(h:cut cs off sh=some v)(hc:bT U B ρ fs cs ws):∃w,kF ws off sh=some w/\bp U B ρ fs v w:=by
 cases sh with
 |none=>
  simp only[cut,qQ]at h;exact hc.get h
 |some n=>
  simp only[cut]at h;split at h
  ·rename_i e
   cases h;refine⟨_,?_,.agg ((hc.drop off).take n)⟩;simp only[kF];rw[if_pos (by rw[<-hc.length];exact mj e)]
  ·cases h
theorem Cc{B:List Bool}:∀{xs:List (aD U.ar)} {bX:List V},bT U B ρ fs xs bX->∀{cs:List (aD U.ar)} {ws:List V} (o:Nat),bT U B ρ fs cs ws->bT U B ρ fs (pF cs o xs) (setCells ws o bX)
 | _,_,.nil,_,_,_,h=>h
 | _,_,.cons h' r,_,_,o,h=>Cc r (o+1) (h.set o h')
theorem cf (R:bB U b F fs s σ H G ρ)(bk:∀t v,aX aj t=some v->bp U s.aB ρ fs v (aM t)):∀{x:ah} {v:aD U.ar},ag aj s x=some v->bp U s.aB ρ fs v (ba aM σ x)
 | .tmp t,_,h=>bk t _ h
 | .var t,_,h=>R.vs t _ h
 | .const v,_,h=>by cases h;exact Cb v
 | .func i,_,h=>by cases h;exact .fn .nil
theorem pL (R:bB U b F fs s σ H G ρ)(bk:∀t v,aX aj t=some v->bp U s.aB ρ fs v (aM t)):∀{xs:List ah} {vs:List (aD U.ar)},qR aj s xs=some vs->bT U s.aB ρ fs vs (xs.map (ba aM σ))
 |[],_,h=>by cases h;exact .nil
 |x::r,_,h=>by
  simp only[qR]at h;split at h
  ·rename_i v e
   split at h
   ·rename_i l ai
    cases h;exact .cons (cf R bk e) (pL R bk ai)
   ·cases h
  ·cases h
section
variable{A:Type}[aF A]{S:A->Prop}
theorem wV (aw:jB S){v:aD U.ar}{w:V}{pE qP:a1 U->A}(h:S (split s v pE qP))(hk:∀i β,aX s.dh i=some β->s.aB[i]? =some β)(ad:bp U s.aB ρ fs v w):
  ∃β ao,w=.bool β/\gN s ao/\ao.aB=s.aB/\((β=true/\S (pE ao))\/(β=false/\S (qP ao))):=by
 cases ad<;>simp only[split]at h
 case eS b=>cases b<;>exact⟨_,s,rfl,.rfl,rfl,by simpa using h⟩
 case bo i b neg hb=>
  split at h
  ·rename_i dE e
   have eN:=hk _ _ e;rw[hb]at eN;cases eN;refine⟨_,s,rfl,.rfl,rfl,?_⟩;cases b<;>cases neg<;>simpa using h
  ·rename_i e
   rw[qQ,hb]at h
   have key:∀β,b=β->gN s {s with dh:=(i,β)::s.dh}:=fun β oH=>⟨rfl,rfl,rfl,rfl,rfl,db,fun q j adN hj=>by
    rw[eG]at hj;split at hj
    ·rename_i e;cases hj;subst e;rw[<-oH];exact hb
    ·exact q j adN hj⟩
   cases neg<;>simp only at h<;>rcases aw.br h with⟨hc,h2⟩|⟨hc,h2⟩<;>subst hc
   ·exact⟨_,_,rfl,key true rfl,rfl,.inl ⟨rfl,h2⟩⟩
   ·exact⟨_,_,rfl,key false rfl,rfl,.inr ⟨rfl,h2⟩⟩
   ·exact⟨_,_,rfl,key true rfl,rfl,.inr ⟨rfl,h2⟩⟩
   ·exact⟨_,_,rfl,key false rfl,rfl,.inl ⟨rfl,h2⟩⟩
 all_goals exact absurd h aw.bad
theorem wW{v:aD U.ar}{w:V}{c:Bool}(h:sc s v=some c)(ad:bp U s.aB ρ fs v w):w=.bool c:=by
 cases ad<;>simp only[sc]at h
 case eS=>cases h;rfl
 case bo i b neg hb=>
  rw[qQ,hb]at h;cases neg<;>cases h<;>simp
 all_goals cases h
theorem adO (c:Bool):gN s {s with aB:=s.aB++[c]}:=⟨rfl,rfl,rfl,rfl,rfl,fl _ _,fun q i β h=>ji (fl _ _) (q i β h)⟩
theorem Cd (l:List Bool):gN s {s with aB:=s.aB++l}:=⟨rfl,rfl,rfl,rfl,rfl,fl _ _,fun q i β h=>ji (fl _ _) (q i β h)⟩
theorem R1{c neg:Bool}{k:aD U.ar->a1 U->A}(h:S (name s c neg k)):∃v ao,S (k v ao)/\gN s ao/\bp U ao.aB ρ fs v (.bool (c != neg)):=
 ⟨_,_,h,adO c,.bo (by simp)⟩
theorem uE (aK:eJ U){t:Nat}{x:U.ar t}{k:aD U.ar->a1 U->A}(h:S (elem t x s k)):∃v ao,S (k v ao)/\gN s ao/\bp U ao.aB ρ fs v (U.enc t x):=
 ⟨_,_,h,Cd _,aK.e7 t x s.aB ρ fs⟩
end
end
end Go.Abs.fM
