/- Texts of this claim, joined and written short by a program. -/
import Derived.Test.YtdiodnpdllkbaaaGreatDoorP21
import Derived.Test.YtdiodnpdllkbaaaGreatDoorP00
set_option linter.unusedVariables false
set_option linter.unusedSimpArgs false
set_option linter.unusedSectionVars false
namespace Go.Abs.gK
open Go Go.Abs
inductive aJ (ax:Nat->Type):Type where
 |int (k:IntKind) (n:Int)
 |b0 (b:Bool)
 |bo (i:Nat) (neg:Bool)
 |str (s:bH)
 |sl (t:Nat) (s:ak (ax t))
 |k (v:V)
 |agg (vs:List (aJ ax))
 |aU (vs:List (aJ ax))
 |dn (vs:List (aJ ax)) (f:Nat)
 |ptr (o off:Nat)
 |row (o:Nat)
 |iK (o:Nat) (n:Int) (f:Nat)
 |fn (i:Nat) (caps:List (aJ ax))
 |fv (j:Nat)
 |kL
structure ib where
 ax:Nat->Type
 es:Nat->Nat
 enc:(t:Nat)->ax t->V
 k5:(t:Nat)->ax t->Nat->aJ ax
 w8:(t:Nat)->ax t->List Bool
 iu:(t:Nat)->aJ ax->List Bool->Option (ax t)
 aR:Nat->Bool
 cA:Nat->Option Nat
 beq:(t:Nat)->ax t->ax t->Bool
 mp:Nat->Option (Nat × Nat)
 WE:∀c p,mp c=some p->ax c=List (ax p.1 × ax p.2)
section
variable (J:ib)(B:List Bool)(ρ:List V)(fs:List V)
mutual
inductive bU:aJ J.ax->V->Prop
 |int {k:IntKind} {n:Int}:bU (.int k n) (.int k n)
 |b0 {b:Bool}:bU (.b0 b) (.bool b)
 |bo {i:Nat} {b neg:Bool} (h:B[i]? =some b):bU (.bo i neg) (.bool (b != neg))
 |str {s:bH}:bU (.str s) (.str s)
 |sl {t:Nat} {s:ak (J.ax t)}:bU (.sl t s) (bg (J.es t) (J.enc t) s)
 |k {v:V}:bU (.k v) v
 |agg {vs:List (aJ J.ax)} {ws:List V} (h:bm vs ws):bU (.agg vs) (.agg ws)
 |aU {vs:List (aJ J.ax)} {ws:List V} (h:bm vs ws):bU (.aU vs) (.aU ws)
 |dn {vs:List (aJ J.ax)} {ws:List V} {f:Nat} (h:bm vs ws):bU (.dn vs f) (.dn ws f)
 |ptr {o off a:Nat} (h:ρ[o]? =some (.ptr a 0)):bU (.ptr o off) (.ptr a off)
 |row {o:Nat} {v:V} (h:ρ[o]? =some v):bU (.row o) v
 |iK {o f l es N:Nat} {n:Int} (h:ρ[o]? =some (.cz l es 0 N N)):bU (.iK o n f) (.gF l es n.toNat f N)
 |fn {i:Nat} {cs:List (aJ J.ax)} {ws:List V} (h:bm cs ws):bU (.fn i cs) (.fn i [] ws)
 |fv {j:Nat} {v:V} (h:fs[j]? =some v):bU (.fv j) v
 |kL {v:V}:bU .kL v
inductive bm:List (aJ J.ax)->List V->Prop
 |nil:bm [] []
 |cons {v:aJ J.ax} {w:V} {vs:List (aJ J.ax)} {ws:List V} (h:bU v w) (r:bm vs ws):bm (v::vs) (w::ws)
end
end
section
variable{J:ib}{B sn:List Bool}{ρ cy fs:List V}
theorem nh{α:Type}{l fo:List α}(h:l <+: fo){i:Nat}{a:α}(hi:l[i]? =some a):fo[i]? =some a:=by
 obtain⟨t,rfl⟩:=h
 rw[gE (e2.1 hi).1];exact hi
mutual
theorem bU.mono (dr:B <+: sn)(aL:ρ <+: cy):∀{v:aJ J.ax} {w:V},bU J B ρ fs v w->bU J sn cy fs v w
 | _,_,.int=>.int
 | _,_,.b0=>.b0
 | _,_,.bo h=>.bo (nh dr h)
 | _,_,.str=>.str
 | _,_,.sl=>.sl
 | _,_,.k=>.k
 | _,_,.agg h=>.agg (bm.mono dr aL h)
 | _,_,.aU h=>.aU (bm.mono dr aL h)
 | _,_,.dn h=>.dn (bm.mono dr aL h)
 | _,_,.ptr h=>.ptr (nh aL h)
 | _,_,.row h=>.row (nh aL h)
 | _,_,.iK h=>.iK (nh aL h)
 | _,_,.fn h=>.fn (bm.mono dr aL h)
 | _,_,.fv h=>.fv h
 | _,_,.kL=>.kL
theorem bm.mono (dr:B <+: sn)(aL:ρ <+: cy):∀{vs:List (aJ J.ax)} {ws:List V},bm J B ρ fs vs ws->bm J sn cy fs vs ws
 | _,_,.nil=>.nil
 | _,_,.cons h r=>.cons (bU.mono dr aL h) (bm.mono dr aL r)
end
mutual
theorem bU.back (dr:B <+: sn)(aL:ρ <+: cy):∀{v:aJ J.ax} {w w':V},bU J B ρ fs v w->bU J sn cy fs v w'->bU J B ρ fs v w'
 | _,_,_,.int,.int=>.int
 | _,_,_,.b0,.b0=>.b0
 | _,_,_,.bo h,.bo h'=>by
   have:=nh dr h
   rw[h']at this
   cases this
   exact .bo h
 | _,_,_,.str,.str=>.str
 | _,_,_,.sl,.sl=>.sl
 | _,_,_,.k,.k=>.k
 | _,_,_,.agg h,.agg h'=>.agg (bm.back dr aL h h')
 | _,_,_,.aU h,.aU h'=>.aU (bm.back dr aL h h')
 | _,_,_,.dn h,.dn h'=>.dn (bm.back dr aL h h')
 | _,_,_,.ptr h,.ptr h'=>by
   have:=nh aL h
   rw[h']at this
   cases this
   exact .ptr h
 | _,_,_,.row h,.row h'=>by
   have:=nh aL h
   rw[h']at this
   cases this
   exact .row h
 | _,_,_,.iK h,.iK h'=>by
   have:=nh aL h
   rw[h']at this
   cases this
   exact .iK h
 | _,_,_,.fn h,.fn h'=>.fn (bm.back dr aL h h')
 | _,_,_,.fv h,.fv h'=>.fv h'
 | _,_,_,.kL,.kL=>.kL
theorem bm.back (dr:B <+: sn)(aL:ρ <+: cy):∀{vs:List (aJ J.ax)} {ws eh:List V},bm J B ρ fs vs ws->bm J sn cy fs vs eh->bm J B ρ fs vs eh
 | _,_,_,.nil,.nil=>.nil
 | _,_,_,.cons h r,.cons h' mU=>.cons (bU.back dr aL h h') (bm.back dr aL r mU)
end
theorem bm.length{vs:List (aJ J.ax)}{ws:List V}:bm J B ρ fs vs ws->vs.length=ws.length
 | .nil=>rfl
 | .cons _ r=>by simp[r.length]
theorem bm.get{vs:List (aJ J.ax)}{ws:List V}:bm J B ρ fs vs ws->∀{i:Nat} {v:aJ J.ax},vs[i]? =some v->∃w,ws[i]? =some w/\bU J B ρ fs v w
 | .nil,_,_,h=>by simp at h
 | .cons h r,0,_,e=>by simp at e;subst e;exact⟨_,rfl,h⟩
 | .cons h r,i+1,_,e=>by
   simp at e
   obtain⟨w,af,aj⟩:=r.get e
   exact⟨w,by simpa using af,aj⟩
theorem bm.drop{vs:List (aJ J.ax)}{ws:List V}:bm J B ρ fs vs ws->∀i,bm J B ρ fs (vs.drop i) (ws.drop i)
 | .nil,i=>by cases i<;>exact .nil
 | .cons h r,0=>.cons h r
 | .cons h r,i+1=>r.drop i
theorem bm.take{vs:List (aJ J.ax)}{ws:List V}:bm J B ρ fs vs ws->∀i,bm J B ρ fs (vs.take i) (ws.take i)
 | .nil,i=>by cases i<;>exact .nil
 | .cons h r,0=>.nil
 | .cons h r,i+1=>.cons h (r.take i)
theorem bm.set{vs:List (aJ J.ax)}{ws:List V}:bm J B ρ fs vs ws->∀(i:Nat) {v:aJ J.ax} {w:V},bU J B ρ fs v w->bm J B ρ fs (vs.set i v) (ws.set i w)
 | .nil,i,_,_,_=>by cases i<;>exact .nil
 | .cons h r,0,_,_,h'=>.cons h' r
 | .cons h r,i+1,_,_,h'=>.cons h (r.set i h')
theorem bm.app{vs vs':List (aJ J.ax)}{ws eh:List V}:bm J B ρ fs vs ws->bm J B ρ fs vs' eh->bm J B ρ fs (vs++vs') (ws++eh)
 | .nil,h=>h
 | .cons h r,h'=>.cons h (r.app h')
end
structure gC (J:ib):Prop where
 k5:∀(t:Nat) (x:J.ax t) (B:List Bool) (ρ fs:List V),bU J (B++J.w8 t x) ρ fs (J.k5 t x B.length) (J.enc t x)
 iu:∀(t:Nat) (v:aJ J.ax) (B:List Bool) (ρ fs:List V) (w:V) (x:J.ax t),bU J B ρ fs v w->J.iu t v B=some x->w=J.enc t x
 bs:∀(t:Nat) (x:J.ax t),bs (J.enc t x)=true
 ok:∀(t:Nat) (x:J.ax t),bS (aE (J.enc t x))=true
 es:∀(t:Nat) (x:J.ax t),(aE (J.enc t x)).length=J.es t
 aR:∀(t:Nat) (x:J.ax t),J.aR t=true->flat (J.enc t x)=true
 WG:∀(t n:Nat),J.cA t=some n->∀a c:J.ax t,ix n (J.enc t a) (J.enc t c)=some (J.beq t a c)
def bd{α:Type}:List (Nat × α)->Nat->Option α
 |[],_=>none
 |(k,a)::r,t=>match Nat.beq k t with
  |true=>some a
  |false=>bd r t
def nth{α:Type}:List α->Nat->Option α
 |[],_=>none
 |a::_,0=>some a
 | _::r,n+1=>nth r n
theorem vx{α:Type}:∀(l:List α) (n:Nat),nth l n=l[n]?
 |[],_=>by simp[nth]
 | _::_,0=>rfl
 | _::r,n+1=>by simp[nth,vx r n]
theorem fm{α:Type}(k t:Nat)(a:α)(r:List (Nat × α)):bd ((k,a)::r) t=if k=t then some a else bd r t:=by
 simp only[bd]
 cases hb:Nat.beq k t with
 |true=>rw[if_pos (e8 hb)]
 |false=>rw[if_neg (fun e=>by rw[e,zX]at hb;cases hb)]
theorem IC{α:Type}(l r:List (Nat × α))(t:Nat):bd (l++r) t=match bd l t with
  |some a=>some a
  |none=>bd r t:=by
 induction l with
 |nil=>rfl
 |cons p l ih=>
  obtain⟨k,a⟩:=p
  rw[jz,fm,fm]
  by_cases e:k=t
  ·rw[if_pos e,if_pos e]
  ·rw[if_neg e,if_neg e];exact ih
def mem (t:Nat):List Nat->Bool
 |[]=>false
 |k::r=>match Nat.beq k t with
  |true=>true
  |false=>mem t r
theorem mem_iff (t:Nat):∀l:List Nat,mem t l=true↔t∈l
 |[]=>by simp[mem]
 |k::r=>by
  simp only[mem,dA]
  cases hb:Nat.beq k t with
  |true=>simp[e8 hb]
  |false=>
   have:¬t=k:=fun e=>by rw[e,zX]at hb;cases hb
   simp[this,mem_iff t r]
end Go.Abs.gK
namespace Go.Abs.gK
open Go Go.Abs
inductive ch (J:ib) where
 |cells (w:Bool) (cs:List (aJ J.ax))
 |row (t:Nat) (s:ak (J.ax t))
 |mp (k w:Nat) (m:List (J.ax k × J.ax w))
structure bh (J:ib) where
 vs:List (Nat × aJ J.ax)
 mem:List (Nat × ch J)
 aB:Nat
 aI:List Bool
 dv:List (Nat × Bool)
 dw:List Nat
 cB:List (Nat × Nat)
section
variable{J:ib}
class aM (A:Type) where
 bad:A
 br:Nat->Bool->A->A->A
 c2:{α:Type}->Option α->(α->A)->A
instance{R:Type}:aM (Option R):=⟨none,fun _ c x y=>bif c then x else y,fun o f=>o.bind f⟩
inductive ow (A:Type) where
 |leaf (a:A)
 |br (i:Nat) (c:Bool) (t e:ow A)
 |bad
instance{R:Type}:aM (ow R):=⟨.bad,.br,fun _ _=>.bad⟩
mutual
def Em:V->aJ J.ax
 | .bool b=>.b0 b
 | .int k n=>.int k n
 | .str s=>.str s
 | .agg vs=>.agg (Bp vs)
 |v=>.k v
def Bp:List V->List (aJ J.ax)
 |[]=>[]
 |v::r=>Em v::Bp r
end
def q8:aJ J.ax->Option (List (aJ J.ax))
 | .agg vs=>some vs
 | .kL| .fv _| .aU _| .row _| .iK .. =>none
 | .k v=>match v with
   | .agg _=>none
   |v=>some [.k v]
 |v=>some [v]
def ID:aJ J.ax->Bool
 | .int .. | .b0 _| .bo .. | .str _| .sl .. | .ptr .. | .fn .. =>true
 | .k v=>ed v
 | _=>false
def En:List (aJ J.ax)->Bool
 |[]=>true
 |v::r=>match ID v with
  |true=>En r
  |false=>false
abbrev k6 (J:ib):=List (Nat × aJ J.ax)
def ae (aw:k6 J)(s:bh J):ag->Option (aJ J.ax)
 | .tmp t=>bd aw t
 | .var t=>bd s.vs t
 | .const v=>some (Em v)
 | .func i=>some (.fn i [])
def vy (aw:k6 J)(s:bh J):List ag->Option (List (aJ J.ax))
 |[]=>some []
 |x::r=>match ae aw s x with
  |some v=>match vy aw s r with
   |some l=>some (v::l)
   |none=>none
  |none=>none
def split{A:Type}[aM A](s:bh J)(v:aJ J.ax)(mi ca:bh J->A):A:=match v with
 | .b0 true=>mi s
 | .b0 false=>ca s
 | .bo i neg=>match bd s.dv i with
   |some b=>match b,neg with
    |true,false=>mi s
    |false,true=>mi s
    | _,_=>ca s
   |none=>match nth s.aI i with
    |none=>aM.bad
    |some c=>match neg with
     |false=>aM.br i c (mi {s with dv:=(i,true)::s.dv}) (ca {s with dv:=(i,false)::s.dv})
     |true=>aM.br i c (ca {s with dv:=(i,true)::s.dv}) (mi {s with dv:=(i,false)::s.dv})
 | _=>aM.bad
def w9 (s:bh J):aJ J.ax->Option Bool
 | .b0 b=>some b
 | .bo i neg=>match nth s.aI i with
   |some c=>match neg with
    |false=>some c
    |true=>some (!c)
   |none=>none
 | _=>none
def name{A:Type}[aM A](s:bh J)(c:Bool)(neg:Bool)(k:aJ J.ax->bh J->A):A:=k (.bo s.aI.length neg) {s with aI:=s.aI++[c]}
def elem{A:Type}[aM A](t:Nat)(x:J.ax t)(s:bh J)(k:aJ J.ax->bh J->A):A:=k (J.k5 t x s.aI.length) {s with aI:=s.aI++J.w8 t x}
def cut (cs:List (aJ J.ax))(off:Nat):Option Nat->Option (aJ J.ax)
 |none=>nth cs off
 |some n=>match Nat.ble (off+n) cs.length with
  |true=>some (.agg ((cs.drop off).take n))
  |false=>none
def tx (cs:List (aJ J.ax))(o:Nat):List (aJ J.ax)->List (aJ J.ax)
 |[]=>cs
 |x::xs=>tx (cs.set o x) (o+1) xs
def bin{A:Type}[aM A](s:bh J)(op:BinOp)(k:aJ J.ax->bh J->A)(x y:aJ J.ax):A:=match x,y with
 | .int bK a,.int Eo c=>match decide (bK=Eo)with
   |false=>aM.bad
   |true=>match op with
    | .add=>k (.int bK (bK.wrap (a+c))) s
    | .sub=>k (.int bK (bK.wrap (a-c))) s
    | .mul=>k (.int bK (bK.wrap (a*c))) s
    | .eql=>name s (a==c) false k
    | .neq=>name s (a != c) false k
    | .lss=>name s (decide (a<c)) false k
    | .leq=>name s (decide (a<=c)) false k
    | .gtr=>name s (decide (a>c)) false k
    | .geq=>name s (decide (a>=c)) false k
    | .and=>k (.int bK (bK.wrap ((BitVec.ofInt bK.bits a &&& BitVec.ofInt bK.bits c).toNat))) s
    | .quo=>match bK with
      | .i64=>aM.c2 (DB a c) fun q=>k (.int .i64 q) s
      | _=>aM.bad
    | .rem=>match bK with
      | .i64=>aM.c2 (DC a c) fun q=>k (.int .i64 q) s
      | _=>aM.bad
    | _=>aM.bad
 | .str a,.str c=>match op with
   | .add=>aM.c2 (vg a c) fun q=>k (.str q) s
   | .eql=>name s (a==c) false k
   | .neq=>name s (a != c) false k
   | _=>aM.bad
 | _,_=>aM.bad
def NN{A:Type}[aM A](s:bh J)(op:BinOp)(k:aJ J.ax->bh J->A)(x:aJ J.ax)(tz:IntKind)(c:Int):A:=match x with
 | .int bK a=>match op with
   | .shl=>match decide (0<=c/\c.toNat<=bK.bits)with
     |true=>k (.int bK (bK.wrap (a*2^c.toNat))) s
     |false=>aM.bad
   | .shr=>match decide (0<=c/\c.toNat<=bK.bits)with
     |true=>k (.int bK (a/2^c.toNat)) s
     |false=>aM.bad
   | .quo=>match decide (bK=tz/\0<c)with
     |true=>k (.int bK (bK.wrap (a.tdiv c))) s
     |false=>aM.bad
   | .rem=>match decide (bK=tz/\0<c)with
     |true=>k (.int bK (a.tmod c)) s
     |false=>aM.bad
   |op=>bin s op k x (.int tz c)
 | _=>bin s op k x (.int tz c)
def tA (s:bh J):List Nat->List (aJ J.ax)->List (aJ J.ax)->Option Bool
 |[],[],[]=>some true
 |n::ks,x::xs,y::cR=>match tA s ks xs cR with
  |none=>none
  |some e=>match n,x,y with
   |0,.int k a,.int bp c=>match decide (k=bp)with
    |true=>some ((a==c)&&e)
    |false=>none
   |1,.str a,.str c=>some ((a==c)&&e)
   |2,x,y=>match w9 s x,w9 s y with
    |some a,some c=>some ((a==c)&&e)
    | _,_=>none
   | _,_,_=>none
 | _,_,_=>none
def IE (z:List (aJ J.ax))(aw:k6 J)(s:bh J):List (Nat × Nat × ag)->Option (List (aJ J.ax))
 |[]=>some z
 |(off,n,x)::r=>match ae aw s x with
  |none=>none
  |some v=>match q8 v with
   |none=>none
   |some cs=>match Nat.beq cs.length n,Nat.ble (off+n) z.length,En cs with
    |true,true,true=>IE (tx z off cs) aw s r
    | _,_,_=>none
def IG:Nat->List (Nat × ag)->Bool
 | _,[]=>true
 |n,p::r=>match Nat.beq p.1 n with
  |true=>IG (n+1) r
  |false=>false
def IH (t:Nat)(B:List Bool):List (aJ J.ax)->Option (List (J.ax t))
 |[]=>some []
 |v::r=>match J.iu t v B with
  |none=>none
  |some x=>match IH t B r with
   |none=>none
   |some l=>some (x::l)
def e1{ax:Nat->Type}(t:Nat):aJ ax->Option (ak (ax t))
 | .sl eY s=>if h:eY=t then some (h ▸ s)else none
 | .k .cp=>some .nil
 | .k .emp=>some .emp
 | _=>none
def WH (z:List V):aJ J.ax:=match z with
 |[v]=>Em v
 |z=>.agg (Bp z)
def II (k w:Nat)(m:List (J.ax k × J.ax w))(x:J.ax k):Option (J.ax w):=@iH _ _ ⟨J.beq k⟩ m x
def ajx (k w:Nat)(m:List (J.ax k × J.ax w))(x:J.ax k)(y:J.ax w):List (J.ax k × J.ax w):=@mg _ _ ⟨J.beq k⟩ m x y
def kindOf (k:Nat)(n:Nat):Bool:=match J.cA k with
 |some m=>Nat.beq m n
 |none=>false
def Ep{A:Type}[aM A](aw:k6 J)(s:bh J)(ty:Option Nat)(k:aJ J.ax->bh J->A):cH->A
 | .mv x=>match ae aw s x with
   |some v=>k v s
   |none=>aM.bad
 | .pick c a b=>match ae aw s c with
   |some c=>split s c (fun s=>match ae aw s a with|some v=>k v s|none=>aM.bad) (fun s=>match ae aw s b with|some v=>k v s|none=>aM.bad)
   |none=>aM.bad
 | .build z parts=>match IE (Bp z) aw s parts with
   |some cs=>k (.agg cs) s
   |none=>aM.bad
 | .lit es z len parts jc=>match ty,jc with
   |some t,true=>match vy aw s (parts.map Prod.snd)with
    |none=>aM.bad
    |some vs=>match IH t s.aI vs,IG 0 parts,Nat.beq vs.length len,Nat.beq (J.es t) es with
     |some l,true,true,true=>match l with
      |[]=>k (.sl t .emp) s
      |l=>k (.sl t (.mk l)) s
     | _,_,_,_=>aM.bad
   | _,_=>aM.bad
 | .load sh x=>match ae aw s x with
   |some (.dn cs f)=>match cut cs f sh with
    |some v=>k v s
    |none=>aM.bad
   |some (.ptr o f)=>match bd s.mem o with
    |some (.cells _ cs)=>match cut cs f sh with
     |some v=>k v s
     |none=>aM.bad
    | _=>aM.bad
   |some (.iK o n f)=>match bd s.mem o with
    |some (.row t a)=>aM.c2 (bQ a.l n) fun e=>elem t e s fun v s=>match q8 v with
     |some cs=>match cut cs f sh with
      |some v=>k v s
      |none=>aM.bad
     |none=>aM.bad
    | _=>aM.bad
   | _=>aM.bad
 | .nilCheck x=>match ae aw s x with
   |some (.ptr o f)=>k (.ptr o f) s
   |some (.dn cs f)=>k (.dn cs f) s
   |some (.fn i cs)=>k (.fn i cs) s
   |some (.iK o n f)=>k (.iK o n f) s
   | _=>aM.bad
 | .bin op x (.const (.int tz c))=>match ae aw s x with
   |some v=>NN s op k v tz c
   |none=>aM.bad
 | .bin op x y=>match ae aw s x,ae aw s y with
   |some v,some w=>bin s op k v w
   | _,_=>aM.bad
 | .xJ neg ks x y=>match ae aw s x,ae aw s y with
   |some (.agg a),some (.agg c)=>match tA s ks a c with
    |some e=>name s e neg k
    |none=>aM.bad
   | _,_=>aM.bad
 | .pt kind neg x y=>match ae aw s x,ae aw s y with
   |some v,some w=>match kind,v,w with
    |1,.sl _ a,.k .cp=>name s a.isNil neg k
    |4,v,w=>match w9 s v,w9 s w with
     |some a,some c=>name s (a==c) neg k
     | _,_=>aM.bad
    | _,_,_=>aM.bad
   | _,_=>aM.bad
 | .un op x=>match op,ae aw s x with
   | .not,some (.b0 b)=>k (.b0 (!b)) s
   | .not,some (.bo i neg)=>k (.bo i (!neg)) s
   | .neg,some (.int bK n)=>k (.int bK (bK.wrap (0-n))) s
   | _,_=>aM.bad
 | .conv bK x=>match ae aw s x with
   |some (.int _ n)=>k (.int bK (bK.wrap n)) s
   | _=>aM.bad
 | .ug mx x y=>match ae aw s x,ae aw s y with
   |some (.int bK a),some (.int Eo c)=>match decide (bK=Eo)with
    |true=>match mx with
     |true=>k (.int bK (max a c)) s
     |false=>k (.int bK (min a c)) s
    |false=>aM.bad
   | _,_=>aM.bad
 | .sS i [] cs=>match vy aw s cs with
   |some vs=>k (.fn i vs) s
   |none=>aM.bad
 | .fieldAddr off x=>match ae aw s x with
   |some (.ptr o f)=>k (.ptr o (f+off)) s
   |some (.dn cs f)=>k (.dn cs (f+off)) s
   |some (.iK o n f)=>k (.iK o n (f+off)) s
   | _=>aM.bad
 | .field off sh x=>match ae aw s x with
   |some (.agg cs)=>match cut cs off sh with
    |some v=>k v s
    |none=>aM.bad
   | _=>aM.bad
 | .extract x i=>match ae aw s x with
   |some (.aU vs)=>match nth vs i with
    |some v=>k v s
    |none=>aM.bad
   | _=>aM.bad
 | .len kind x=>match kind,ae aw s x with
   |0,some (.str a)=>k (.int .i64 (a.length:Int)) s
   |1,some (.sl _ a)=>k (.int .i64 a.len) s
   |1,some (.row o)=>match bd s.mem o with
    |some (.row _ a)=>k (.int .i64 a.len) s
    | _=>aM.bad
   |2,some (.row o)=>match bd s.mem o with
    |some (.mp _ _ m)=>k (.int .i64 (m.length:Int)) s
    | _=>aM.bad
   |1,some (.k .cp)=>k (.int .i64 0) s
   |1,some (.k .emp)=>k (.int .i64 0) s
   | _,_=>aM.bad
 | .indexAddr es x i=>match ae aw s x,ae aw s i with
   |some (.sl t a),some (.int _ n)=>match Nat.beq (J.es t) es with
    |true=>aM.c2 (bQ a.l n) fun e=>elem t e s fun v s=>match q8 v with
     |some cs=>k (.dn cs 0) s
     |none=>aM.bad
    |false=>aM.bad
   |some (.row o),some (.int _ n)=>match bd s.mem o with
    |some (.row t a)=>match Nat.beq (J.es t) es with
     |true=>aM.c2 (bQ a.l n) fun _=>k (.iK o n 0) s
     |false=>aM.bad
    | _=>aM.bad
   | _,_=>aM.bad
 | .qw x i=>match ae aw s x,ae aw s i with
   |some (.str a),some (.int _ n)=>aM.c2 (bQ a n) fun c=>k (.int .u8 (c.toNat:Int)) s
   | _,_=>aM.bad
 | .oI x lo hi=>match ae aw s x with
   |some (.str a)=>match lo.map (ae aw s),hi.map (ae aw s)with
    |none,none=>aM.c2 (q0 a 0 (a.length:Int)) fun q=>k (.str q) s
    |some (some (.int .i64 n)),none=>aM.c2 (q0 a n (a.length:Int)) fun q=>k (.str q) s
    |none,some (some (.int .i64 m))=>aM.c2 (q0 a 0 m) fun q=>k (.str q) s
    |some (some (.int .i64 n)),some (some (.int .i64 m))=>aM.c2 (q0 a n m) fun q=>k (.str q) s
    | _,_=>aM.bad
   | _=>aM.bad
 | .lookup kind z x i ok=>match ae aw s x,ae aw s i with
   |some (.row o),some v=>match bd s.mem o with
    |some (.mp ei ju m)=>match J.iu ei v s.aI,J.iu ju (Em z) s.aI,kindOf (J:=J) ei kind with
     |some x,some z,true=>match ok with
      |false=>elem ju ((II ei ju m x).getD z) s k
      |true=>elem ju ((II ei ju m x).getD z) s fun v s=>name s (II ei ju m x).isSome false fun b s=>k (.aU [v,b]) s
     | _,_,_=>aM.bad
    | _=>aM.bad
   | _,_=>aM.bad
 | .pw es x lo hi none=>match ae aw s x with
   |some (.sl t a)=>match Nat.beq (J.es t) es with
    |true=>match lo.map (ae aw s),hi.map (ae aw s)with
     |none,none=>aM.c2 (o8 a 0 a.len) fun q=>k (.sl t q) s
     |some (some (.int .i64 n)),none=>aM.c2 (o8 a n a.len) fun q=>k (.sl t q) s
     |none,some (some (.int .i64 m))=>aM.c2 (o8 a 0 m) fun q=>k (.sl t q) s
     |some (some (.int .i64 n)),some (some (.int .i64 m))=>aM.c2 (o8 a n m) fun q=>k (.sl t q) s
     | _,_=>aM.bad
    |false=>aM.bad
   | _=>aM.bad
 | _=>aM.bad
end
end Go.Abs.gK
