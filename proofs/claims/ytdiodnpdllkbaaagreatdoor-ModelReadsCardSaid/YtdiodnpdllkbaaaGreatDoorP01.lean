/- Texts of this claim, joined and written short by a program. -/
import Derived.Test.YtdiodnpdllkbaaaGreatDoorP00
import Derived.CheckFast
import Derived.KernelRfl
import Derived.Lib.Fields
import Derived.Lib.Atoi
import Derived.Lib.Bytealg
import Derived.Lib.Join
import Derived.Lib.ItoaNum
set_option linter.unusedVariables false
set_option linter.unusedSimpArgs false
set_option linter.unusedSectionVars false
namespace Go.Abs
open Go
mutual
def mC:Value->Option V
 | .bool b=>some (.bool b)
 | .int k n=>some (.int k n)
 | .string s=>some (.str s.data.toList)
 | .pointer none=>some .jb
 | .slice none 0 0=>some .cp
 | .map none=>some .iw
 | .nilFunc=>some .jV
 | .nilIface=>some .ig
 | .agg ⟨vs⟩=>(z8 vs).map .agg
 | .tuple ⟨[]⟩=>some .undef
 | _=>none
def z8:List Value->Option (List V)
 |[]=>some []
 |v::r=>match mC v with
  |some v'=>if ui v' then none else(z8 r).map (v':: ·)
  |none=>none
end
def dH{α β:Type}(f:α->Option β):List α->Option (List β)
 |[]=>some []
 |a::r=>match f a with
  |some b=>match dH f r with
   |some aI=>some (b::aI)
   |none=>none
  |none=>none
structure Ctx where
 P:Program
 FZ:Nat->Option Nat
 jc:String->Bool:=fun _=>true
 raw:Nat->Bool:=fun _=>false
 e9:Nat->Option Obj:=fun _=>none
 Aa:List Nat:=[]
namespace Ctx
variable (C:Ctx)
def sizeOf (t:Nat):Option Nat:=(C.P.info? t).map (·.size)
def zeroCells (t:Nat):Option (List V):=match C.P.info? t with
 |some i=>match i.zero with
  |some z=>match z8 z.cells.toList with
   |some vs=>if bS vs then some vs else none
   |none=>none
  |none=>none
 |none=>none
def zeroV (t:Nat):Option V:=match C.P.info? t with
 |some i=>match i.zero with
  |some z=>mC z
  |none=>none
 |none=>none
def shapeOf (t:Nat):Option (Option Nat):=match C.P.underlying t with
 |some (.struct _)|some (.array _ _)=>(C.sizeOf t).map some
 |some _=>some none
 |none=>none
def b3 (vars:List Nat):Operand->Option ag
 | .tmp t=>some (if vars.contains t then .var t else .tmp t)
 | .const v=>(mC v).map .const
 | .func f=>(C.FZ f).map .func
 | .global _=>none
def oN (vars:List Nat):Option Operand->Option (Option ag)
 |none=>some none
 |some x=>(C.b3 vars x).map some
def jd (t:Nat):Option Nat:=match C.P.underlying t with
 |some (.int _)=>some 0
 |some .string=>some 1
 |some .bool=>some 2
 | _=>none
def Cl (i:Nat):List Field->Option (List Nat)
 |[]=>some []
 |f::fs=>match C.jd f.type with
  |some k=>if f.name != "_" &&f.offset==i then(Cl (i+1) fs).map (k:: ·)else none
  |none=>none
def Ab (i:Nat):List Field->Option (List Nat)
 |[]=>some []
 |f::fs=>match C.jd f.type with
  |some k=>if f.name != "_" &&f.offset==i then(Ab (i+1) fs).map (k:: ·)else none
  |none=>match C.P.underlying f.type with
   |some (.struct gs)=>match C.Cl 0 gs.toList with
    |some ks=>if f.name != "_" &&f.offset==i&&!C.P.stoodInHeld f.type&&C.sizeOf f.type==some ks.length then(Ab (i+ks.length) fs).map (ks++ ·)else none
    |none=>none
   | _=>none
def structEq (t:Nat):Option (List Nat):=match C.P.underlying t with
 |some (.struct fs)=>if !C.P.stoodInHeld t&&!C.P.eqGuardType C.P.depth t then C.Ab 0 fs.toList else none
 | _=>none
def F0:ag->Bool
 | .const .ig=>true
 | _=>false
def xO (d:TypeDesc)(x y:ag)(plain:cH)(neg:Bool):Option cH:=
 match d with
 | .int _| .string=>some plain
 | .pointer _=>some (.pt 0 neg x y)
 | .slice _=>some (.pt 1 neg x y)
 | .func .. =>some (.pt 2 neg x y)
 | .interface _=>if F0 y then some (.pt 3 neg x y)else none
 | .bool=>some (.pt 4 neg x y)
 | _=>none
def builtin (vars:List Nat)(b:Builtin)(args:Array Operand)(ts:Array TypeId):Option cH:=
 match b,args.toList,ts.toList with
 | .len,[x],[t]=>match C.P.underlying t with
   |some .string=>(C.b3 vars x).map (.len 0)
   |some (.slice _)=>(C.b3 vars x).map (.len 1)
   |some (.map _ _)=>(C.b3 vars x).map (.len 2)
   | _=>none
 | .append,[a,b],[t,u]=>match C.P.underlying t,C.P.underlying u with
   |some (.slice e),some (.slice _)=>match C.P.info? e,C.b3 vars a,C.b3 vars b with
    |some i,some a,some b=>if i.size=0||i.zero.map (·.cells.size) != some i.size then none else some (.append i.size i.bytes a b)
    | _,_,_=>none
   |some (.slice e),some .string=>match C.P.info? e,C.b3 vars a,C.b3 vars b with
    |some i,some a,some b=>if i.size=1&&i.bytes==1&&i.zero.map (·.cells.size)==some 1 then some (.Cj a b)else none
    | _,_,_=>none
   | _,_=>none
 | .delete,[m,k],[t,_]=>match C.P.underlying t,C.b3 vars m,C.b3 vars k with
   |some (.map ei _),some m,some k=>(C.jd ei).map fun bK=>.xK bK m k
   | _,_,_=>none
 | .recover,[],_=>none
 | .max,[a,b],_=>match C.b3 vars a,C.b3 vars b with
   |some a,some b=>some (.ug true a b)
   | _,_=>none
 | .copy,[a,b],[t,u]=>match C.P.underlying t,C.P.underlying u with
   |some (.slice e),some (.slice _)=>match C.sizeOf e,C.b3 vars a,C.b3 vars b with
    |some n,some a,some b=>if n=0 then none else some (.copy n a b)
    | _,_,_=>none
   | _,_=>none
 | .min,[a,b],_=>match C.b3 vars a,C.b3 vars b with
   |some a,some b=>some (.ug false a b)
   | _,_=>none
 | _,_,_=>none
def cI (vars:List Nat)(pos:String):Op->Option cH
 | .move x| .assign x=>(C.b3 vars x).map .mv
 | .pick c a b=>match C.b3 vars c,C.b3 vars a,C.b3 vars b with
   |some c,some a,some b=>some (.pick c a b)
   | _,_,_=>none
 | .alloc t=>(C.zeroCells t).map .alloc
 | .box _ x=>(C.b3 vars x).map .box
 | .build t parts=>match C.P.underlying t,C.zeroCells t with
   |some (.struct fs),some z=>if fs.toList.any (fun f=>(C.sizeOf f.type).isNone)then none else(dH (fun(p:Nat × Operand)=>match fs[p.1]? with
     |some f=>match C.sizeOf f.type,C.b3 vars p.2 with
      |some n,some x=>some (f.offset,n,x)
      | _,_=>none
     |none=>none) parts.toList).map (.build z)
   |some (.array _ e),some z=>match C.sizeOf e with
    |some n=>(dH (fun(p:Nat × Operand)=>match C.b3 vars p.2 with
      |some x=>some (p.1*n,n,x)
      |none=>none) parts.toList).map (.build z)
    |none=>none
   | _,_=>none
 | .buildSlice t len parts=>match C.P.underlying t with
   |some (.slice e)=>match C.sizeOf e,C.zeroCells e,dH (fun(p:Nat × Operand)=>(C.b3 vars p.2).map fun x=>(p.1,x)) parts.toList with
    |some n,some z,some ps=>if n=0\/len*n>2^24\/z.length≠n then none else some (.lit n z len ps (match C.P.underlying e with|some (.func ..)=>false| _=>C.jc pos))
    | _,_,_=>none
   | _=>none
 | .load t a=>match C.shapeOf t,C.b3 vars a with
   |some sh,some a=>some (.load sh a)
   | _,_=>none
 | .store t a x=>match C.sizeOf t,C.b3 vars a,C.b3 vars x with
   |some n,some a,some x=>some (.store n a x)
   | _,_,_=>none
 | .nilCheck x=>(C.b3 vars x).map .nilCheck
 | .binOp o t x y _=>match C.b3 vars x,C.b3 vars y with
   |some x,some y=>match o,C.P.underlying t with
    | .eql,some (.struct _)=>(C.structEq t).map fun n=>.xJ false n x y
    | .neq,some (.struct _)=>(C.structEq t).map fun n=>.xJ true n x y
    | .eql,some d=>xO d x y (.bin .eql x y) false
    | .neq,some d=>xO d x y (.bin .neq x y) true
    | .eql,none| .neq,none=>none
    | _,_=>some (.bin o x y)
   | _,_=>none
 | .unOp o _ x=>(C.b3 vars x).map (.un o)
 | .convert s d x=>match C.P.underlying s,C.P.underlying d,C.b3 vars x with
   |some (.int _),some (.int k),some x=>some (.conv k x)
   |some (.slice e),some .string,some x=>match C.P.underlying e with
    |some (.int .u8)=>some (.uf x)
    | _=>none
   | _,_,_=>none
 | .makeInterface t x=>match C.P.underlying t,C.b3 vars x with
   |some (.interface _),_=>none
   |some _,some x=>some (.zZ t x)
   | _,_=>none
 | .makeFunc (.func f) a b=>match C.FZ f,dH (C.b3 vars) a.toList,dH (C.b3 vars) b.toList with
   |some i,some a,some b=>some (.sS i a b)
   | _,_,_=>none
 | .makeMap _ none=>some .mkMap
 | .makeSlice t l c=>match C.P.underlying t with
   |some (.slice e)=>match C.P.info? e,C.zeroCells e,C.b3 vars l,C.b3 vars c with
    |some i,some z,some l,some c=>if i.size=0\/z.length≠i.size then none else some (.mkSlice i.size z i.bytes l c)
    | _,_,_,_=>none
   | _=>none
 | .slice t x lo hi mx=>match C.P.underlying t,C.b3 vars x,C.oN vars lo,C.oN vars hi,C.oN vars mx with
   |some .string,some x,some lo,some hi,some none=>some (.oI x lo hi)
   |some (.slice e),some x,some lo,some hi,some mx=>match C.sizeOf e with
    |some n=>if n=0||(hi.isNone&&mx.isSome)then none else some (.pw n x lo hi mx)
    |none=>none
   | _,_,_,_,_=>none
 | .fieldAddr s x f=>match C.P.underlying s,C.b3 vars x with
   |some (.struct fs),some x=>match fs[f]? with
    |some aR=>match C.sizeOf aR.type with
     |some n=>if n=0 then none else some (.fieldAddr aR.offset x)
     |none=>none
    |none=>none
   | _,_=>none
 | .field s x f=>match C.P.underlying s,C.b3 vars x with
   |some (.struct fs),some x=>match fs[f]? with
    |some aR=>(C.shapeOf aR.type).map fun sh=>.field aR.offset sh x
    |none=>none
   | _,_=>none
 | .indexAddr t x i=>match C.P.underlying t,C.b3 vars x,C.b3 vars i with
   |some (.slice e),some x,some i=>match C.sizeOf e with
    |some n=>if n=0 then none else some (.indexAddr n x i)
    |none=>none
   | _,_,_=>none
 | .index t x i=>match C.P.underlying t,C.b3 vars x,C.b3 vars i with
   |some .string,some x,some i=>some (.qw x i)
   | _,_,_=>none
 | .lookup t x i ok=>match C.P.underlying t,C.b3 vars x,C.b3 vars i with
   |some (.map k e),some x,some i=>match C.jd k,C.zeroV e with
    |some bK,some z=>if ui z then none else some (.lookup bK z x i ok)
    | _,_=>none
   | _,_,_=>none
 | .mapUpdate t m k v=>match C.P.underlying t,C.b3 vars m,C.b3 vars k,C.b3 vars v with
   |some (.map ei _),some m,some k,some v=>(C.jd ei).map fun bK=>.px bK m k v
   | _,_,_,_=>none
 | .insert t m k v=>match C.P.underlying t,C.b3 vars m,C.b3 vars k,C.b3 vars v with
   |some (.map ei _),some m,some k,some v=>(C.jd ei).map fun bK=>.px bK m k v
   | _,_,_,_=>none
 | .extract x i=>(C.b3 vars x).map fun x=>.extract x i
 | .call {callee:=.value f,args,.. }=>match C.b3 vars f,dH (C.b3 vars) args.toList with
   |some f,some aO=>some (.call (match f with| .func i=>C.raw i| _=>false) f aO)
   | _,_=>none
 | .call {callee:=.builtin b,args,argTypes}=>C.builtin vars b args argTypes
 | _=>none
def op (vars:List Nat)(pos:String)(o:Op):cH:=(C.cI vars pos o).getD .fail
def guard (vars:List Nat)(ops:Array Oper):Option (Nat × Bool)->Option (Option (ag × Bool))
 |none=>some none
 |some (j,want)=>match(ops[j]?).bind (·.dst)with
  |some d=>some (some (if vars.contains d then .var d else .tmp d,want))
  |none=>none
def oper (vars:List Nat)(n:Nat)(ops:Array Oper)(o:Oper):Option bO:=
 match guard vars ops o.guard with
 |some g=>match o.dst with
  |none=>some {dst:=none,op:=C.op vars o.pos o.op,guard:=g}
  |some d=>if d<n then some {dst:=some (d,vars.contains d),op:=C.op vars o.pos o.op,guard:=g}else none
 |none=>none
def xP (ops:Array Oper):Bool:=
 ops.toList.zipIdx.all fun(o,i)=>o.after.all fun e=>match e.ground with| .gcOnly _=>true| _=>decide (e.on<i)
def tmpsOf (xs:Array Operand):List Nat:=xs.toList.filterMap fun| .tmp t=>some t| _=>none
def fq (ops:Array Oper)(o:Oper):List Nat:=
 tmpsOf o.op.operands++(match o.guard with|some (j,_)=>((ops[j]?).bind (·.dst)).toList|none=>[])
def xQ (ops:Array Oper):Bool:=
 let b:=CheckFast.beforeF ops
 ops.toList.zipIdx.all fun(o,j)=>ops.toList.zipIdx.all fun(p,i)=>
  match p.dst with
  |none=>true
  |some d=>i==j||!(o.dst==some d||(fq ops o).contains d)||(b.getD (max i j) 0).testBit (min i j)
def wo (ops:Array Oper)(o:Oper)(a:bO):Bool:=
 a.op.operands.all fun
   | .tmp t| .var t=>(fq ops o).contains t
   | _=>true
def Kv (vars:List Nat)(n:Nat)(ops:Array Oper):Option cj:=match C.Aa,ops.toList.getLast? with
 |[],_=>none
 | _,some gW=>match gW.op,gW.guard with
   | .defer {callee:=.value f,args,.. },none=>match args.toList,dH (C.oper vars n ops) ops.toList.dropLast,C.b3 vars f with
     |[],some bz,some lS=>if gW.dst.isNone then some (.xL bz C.Aa lS)else none
     | _,_,_=>none
   | _,_=>none
 | _,none=>none
def code (vars:List Nat)(n:Nat):Code->Option cj
 | .skip=>some .skip
 | .region _ ops draw=>match(if draw then none else C.Kv vars n ops)with
   |some r=>some r
   |none=>match dH (C.oper vars n ops) ops.toList with
    |some bz=>if !draw then some (.region bz none)
    else if xP ops&&xQ ops&&(ops.toList.zip bz).all (fun(o,a)=>wo ops o a)then some (.region bz (some (CheckFast.beforeF ops).toList))else none
    |none=>none
 | .seq a b=>match code vars n a,code vars n b with
   |some a,some b=>some (.seq a b)
   | _,_=>none
 | .cond c t e=>match C.b3 vars c,code vars n t,code vars n e with
   |some c,some t,some e=>some (.cond c t e)
   | _,_,_=>none
 | .block id c=>(code vars n c).map (.block id)
 | .loop c=>(code vars n c).map .loop
 | .rangeFunc f ps a b=>match C.b3 vars f,code vars n a,code vars n b with
   |some f,some a,some b=>if ps.all (fun t=>decide (t<n)&&vars.contains t)then some (.rangeFunc f ps.toList a b)else none
   | _,_,_=>none
 | .exit id=>some (.exit id)
 | .ret=>some .ret
 | _=>some .fail
def wq:Code->List Nat
 | .region _ ops _=>(ops.toList.foldl (fun(acc:List Nat × List Nat) o=>
  let g:=match o.guard with|some (j,_)=>((ops[j]?).bind (·.dst)).toList|none=>[]
  let reads:=(g++tmpsOf o.op.operands).filter fun t=>!acc.2.contains t
  (acc.1++reads,o.dst.toList++acc.2)) ([],[])).1
 | .seq a b=>wq a++wq b
 | .cond c t e=>tmpsOf #[c]++wq t++wq e
 | .block _ c| .loop c=>wq c
 | .rangeFunc f ps a b=>tmpsOf #[f]++ps.toList++wq a++wq b
 | _=>[]
def res:ResultVar->Option mB
 | .tmp t=>some (.tmp t)
 | .cell a t=>(C.shapeOf t).map (.cell a)
def qz:List ResultVar->List Nat
 |[]=>[]
 | .tmp t::r=>t::qz r
 | .cell a _::r=>a::qz r
def varsOf (f:Func):List Nat:=
 ((List.range (f.params.size+f.nfree)++qz f.results.toList++(match f.body with|some c=>wq c|none=>[])).eraseDups)
def func (f:Func)(fresh:Bool):Option h3:=
 match f.body with
 |some c=>match C.code (varsOf f) f.ntmps c,dH C.res f.results.toList with
  |some b,some rs=>if f.name== "runtime.NumGoroutine" then none else some {xM:=f.ntmps,body:=b,results:=rs,fresh}
  | _,_=>none
 |none=>none
end Ctx
end Go.Abs
namespace Go.Abs
def sV (a b:cU):Prop:=∀f args H r,a f args H=some r->b f args H=some r
variable{call oO:cU}
theorem uk (h:sV call oO){ae:ag->V}{H:Heap}{low:Nat}{op:cH}{r:V × Heap × Nat}(he:b2 call ae H low op=some r):b2 oO ae H low op=some r:=by
 cases op with
 |call raw f args=>
  cases raw
  ·simp only[b2]at he⊢
   split at he
   ·rename_i vs H1 bI h1
    split at he
    ·rename_i u H2 l h2
     rw[h _ _ _ _ h2]
     exact he
    ·cases he
   ·cases he
  ·simp only[b2]at he⊢
   split at he
   ·rename_i u H2 l h2
    rw[h _ _ _ _ h2]
    exact he
   ·cases he
 | _=>exact he
theorem xR (h:sV call oO):∀(ops:List bO) (st:aq) (wr:List Bool) (r:aq × List Bool),cQ call ops st wr=some r->cQ oO ops st wr=some r
 |[],st,wr,r,he=>he
 |o::ops,st,wr,r,he=>by
  simp only[cQ]at he⊢
  split at he
  ·rename_i hw
   try simp only[hw]
   split at he
   ·rename_i v H' low' h1
    rw[uk h h1]
    exact xR h ops _ _ _ he
   ·cases he
  ·rename_i hw
   try simp only[hw]
   exact xR h ops _ _ _ he
  ·cases he
theorem xS (h:sV call oO):∀(ops:List bO) (st:aq) (r:List aq),fx call ops st=some r->fx oO ops st=some r
 |[],st,r,he=>he
 |o::ops,st,r,he=>by
  simp only[fx]at he⊢
  split at he
  ·rename_i hw
   try simp only[hw]
   split at he
   ·rename_i v H' low' h1
    rw[uk h h1]
    obtain⟨x,hx,rfl⟩:=ct.1 he
    simp only[]
    rw[xS h ops _ _ hx];rfl
   ·cases he
  ·rename_i hw
   try simp only[hw]
   obtain⟨x,hx,rfl⟩:=ct.1 he
   rw[xS h ops _ _ hx];rfl
  ·cases he
theorem Ac (h:sV call oO){q:bO × aq × Heap}(he:jX call q=true):jX oO q=true:=by
 unfold jX at he⊢
 split at he
 ·rename_i hw;try simp only[hw]
 ·rename_i hw
  try simp only[hw]
  split at he
  ·rename_i v H1 bI h1
   rw[uk h h1]
   simp only[]
   split at he
   ·rename_i v2 H2 c5 h2
    rw[uk h h2]
    exact he
   ·cases he
  ·cases he
 ·cases he
theorem aa9 (h:sV call oO){dO:List Nat}{ops:List bO}{wr:List Bool}{st:aq}(he:qx call dO ops wr st=true):qx oO dO ops wr st=true:=by
 unfold qx at he⊢
 split at he
 ·rename_i cf ht
  rw[xS h _ _ _ ht]
  simp only[b8,eV]at he⊢
  exact⟨he.1,fun q bc=>Ac h (he.2 q bc)⟩
 ·cases he
theorem Kw (h:sV call oO){dO:List Nat}{ops:List bO}{wr:List Bool}{st:aq}(he:nY call dO ops wr st=true):nY oO dO ops wr st=true:=by
 unfold nY at he⊢
 simp only[ko]at he⊢
 rcases he with he|he
 ·exact .inl (aa9 h he)
 ·right
  split at he
  ·rename_i cf ht
   rw[xS h _ _ _ ht]
   simp only[b8,eV]at he⊢
   exact⟨he.1,fun q bc=>Ac h (he.2 q bc)⟩
  ·cases he
theorem F1{f lR:aq->Option (X × aq)}(h:∀st r,f st=some r->lR st=some r):∀(n m:Nat) (st:aq) (r:X × aq),n<=m->iter f n st=some r->iter lR m st=some r
 |0,_,_,_,_,he=>by cases he
 |n+1,0,_,_,hle,_=>by omega
 |n+1,m+1,st,r,hle,he=>by
  simp only[iter]at he⊢
  split at he
  ·rename_i b4 h1
   rw[h _ _ h1]
   exact F1 h n m _ _ (by omega) he
  ·rename_i bf
   rw[h _ _ he]
   split
   ·rename_i aF e;cases e;exact absurd he (bf _)
   ·rfl
theorem rF (h:sV call oO){n m:Nat}(hle:n<=m):∀(c:cj) (st:aq) (r:X × aq),exec call n c st=some r->exec oO m c st=some r
 | .skip,st,r,he=>he
 | .xL ops ok f,st,r,he=>by
   simp only[exec]at he⊢
   split at he
   ·rename_i b4 wr h1
    rw[xR h _ _ _ _ h1]
    exact he
   ·cases he
 | .region ops dO,st,r,he=>by
   simp only[exec,aq.fp]at he⊢
   split at he
   ·rename_i b4 wr h1
    rw[xR h _ _ _ _ h1]
    cases dO with
    |none=>exact he
    |some b=>
     simp only at he⊢
     split at he
     ·rename_i hb
      rw[if_pos]
      ·exact he
      ·simp only[ko]at hb⊢
       exact hb.imp id (Kw h)
     ·cases he
   ·cases he
 | .seq a b,st,r,he=>by
   simp only[exec,aq.fp]at he⊢
   split at he
   ·rename_i b4 h1
    rw[rF h hle a _ _ h1]
    exact rF h hle b _ _ he
   ·rename_i bf
    rw[rF h hle a _ _ he]
    split
    ·rename_i b4 e;cases e;exact absurd he (bf _)
    ·rfl
 | .cond c t e,st,r,he=>by
   simp only[exec,aq.fp]at he⊢
   split at he
   ·exact rF h hle t _ _ he
   ·exact rF h hle e _ _ he
   ·cases he
 | .block id c,st,r,he=>by
   simp only[exec,aq.fp]at he⊢
   split at he
   ·rename_i sU b4 h1
    rw[rF h hle c _ _ h1]
    exact he
   ·rename_i bf
    rw[rF h hle c _ _ he]
    split
    ·rename_i sU b4 e;cases e;exact absurd he (bf _ _)
    ·rfl
 | .loop c,st,r,he=>by
   simp only[exec,aq.fp]at he⊢
   exact F1 (fun st r hr=>rF h hle c st r hr) n m st r hle he
 | .rangeFunc f ps a b,st,r,he=>by
   simp only[exec,aq.fp]at he⊢
   split at he
   ·cases he
   ·rename_i hc
    try rw[if_neg hc]
    split at he
    ·rename_i u H1 bI h1
     rw[h _ _ _ _ h1]
     exact he
    ·cases he
 | .exit id,st,r,he=>he
 | .ret,st,r,he=>he
 | .fail,st,r,he=>he
def Kx (ex ex':cj->aq->Option (X × aq)):Prop:=∀c st r,ex c st=some r->ex' c st=some r
theorem QY{ex ex':cj->aq->Option (X × aq)}(h:Kx ex ex'){f:h3}{args:List V}{H:Heap}{r:V × Heap × Nat}(he:fZ ex f args H=some r):fZ ex' f args H=some r:=by
 unfold fZ at he⊢
 split at he
 ·rename_i hl
  rw[if_pos hl]
  split at he
  ·rename_i st h1;rw[h _ _ _ h1];exact he
  ·rename_i st h1;rw[h _ _ _ h1];exact he
  ·cases he
 ·cases he
theorem QZ{ex ex':cj->aq->Option (X × aq)}(h:Kx ex ex'){l:Nat}{args:List V}{H:Heap}{r:V × Heap × Nat}(he:nZ ex l args H=some r):nZ ex' l args H=some r:=by
 unfold nZ at he⊢
 split at he
 ·split at he
  ·rename_i hl
   simp only[hl,if_true]
   split at he
   ·rename_i st h1
    simp only[h _ _ _ h1]
    split at he
    ·rename_i h2
     try simp only[h2]
     split at he
     ·rename_i ar
      simp only[h _ _ _ ar]
      exact he
     ·cases he
    ·cases he
   ·cases he
  ·cases he
 ·cases he
theorem Q0 (aa:Nat->Option bY):∀n,sV (cu aa n) (cu aa (n+1))
 |0=>fun f args H r he=>by simp[cu]at he
 |n+1=>fun f args H r he=>by
  have hx:Kx (exec (cu aa n) n) (exec (cu aa (n+1)) (n+1)):=fun c st r hr=>rF (Q0 aa n) (Ch n) c st r hr
  show qy aa (cu aa (n+1)) (n+1) f args H=some r
  change qy aa (cu aa n) n f args H=some r at he
  unfold qy at he⊢
  split at he
  ·split at he
   ·rename_i h1;try simp only[h1]
    exact QY hx he
   ·rename_i h1;try simp only[h1]
    exact he
   ·cases he
  ·exact QZ hx he
  ·cases he
theorem mD (aa:Nat->Option bY){n:Nat}:∀{m:Nat},n<=m->sV (cu aa n) (cu aa m)
 |0,h=>by have:n=0:=by omega
          subst this;exact fun _ _ _ _ h=>h
 |m+1,h=>by
  rcases fX n (m+1)with h1|h1
  ·exact fun f args H r he=>Q0 aa m f args H r (mD aa (m:=m) (by omega) f args H r he)
  ·have:n=m+1:=by omega
   subst this;exact fun _ _ _ _ h=>h
open Classical in
noncomputable def bZ (aa:Nat->Option bY):cU:=fun f args H=>if h:∃r n,cu aa n f args H=some r then some h.choose else none
open Classical in
noncomputable def dx (aa:Nat->Option bY)(c:cj)(st:aq):Option (X × aq):=if h:∃r n,exec (cu aa n) n c st=some r then some h.choose else none
variable{aa:Nat->Option bY}
theorem um{f:V}{args:List V}{H:Heap}{r:V × Heap × Nat}:bZ aa f args H=some r↔∃n,cu aa n f args H=some r:=by
 unfold bZ
 constructor
 ·intro h
  split at h
  ·rename_i hex;cases h;exact hex.choose_spec
  ·cases h
 ·rintro⟨n,hn⟩
  have hex:∃r n,cu aa n f args H=some r:=⟨r,n,hn⟩
  rw[dif_pos hex]
  obtain⟨m,hm⟩:=hex.choose_spec
  have a:=mD aa (sQ n m) _ _ _ _ hn
  have b:=mD aa (rv n m) _ _ _ _ hm
  rw[a]at b
  exact b.symm
theorem uo{n m:Nat}(hle:n<=m){c:cj}{st:aq}{r:X × aq}(h:exec (cu aa n) n c st=some r):exec (cu aa m) m c st=some r:=rF (mD aa hle) hle c st r h
theorem ga{c:cj}{st:aq}{r:X × aq}:dx aa c st=some r↔∃n,exec (cu aa n) n c st=some r:=by
 unfold dx
 constructor
 ·intro h
  split at h
  ·rename_i hex;cases h;exact hex.choose_spec
  ·cases h
 ·rintro⟨n,hn⟩
  have hex:∃r n,exec (cu aa n) n c st=some r:=⟨r,n,hn⟩
  rw[dif_pos hex]
  obtain⟨m,hm⟩:=hex.choose_spec
  have a:=uo (sQ n m) hn
  have b:=uo (rv n m) hm
  rw[a]at b
  exact b.symm
theorem Cm (n:Nat):sV (cu aa n) (bZ aa):=fun _ _ _ _ h=>um.2 ⟨n,h⟩
theorem wu{α:Type}{a b:Option α}(h:∀r,a=some r↔b=some r):a=b:=by
 cases a with
 |none=>cases b with
  |none=>rfl
  |some y=>exact absurd ((h y).2 rfl) (by simp)
 |some x=>exact((h x).1 rfl).symm
theorem F2{ae:ag->V}{H:Heap}{low:Nat}{op:cH}{r:V × Heap × Nat}:b2 (bZ aa) ae H low op=some r↔∃n,b2 (cu aa n) ae H low op=some r:=by
 constructor
 ·intro he
  cases op with
  |call raw f args=>
   cases raw
   ·simp only[b2]at he⊢
    split at he
    ·rename_i vs H1 bI h1
     split at he
     ·rename_i u H2 l h2
      obtain⟨n,hn⟩:=um.1 h2
      exact⟨n,by rw[hn];exact he⟩
     ·cases he
    ·cases he
   ·simp only[b2]at he⊢
    split at he
    ·rename_i u H2 l h2
     obtain⟨n,hn⟩:=um.1 h2
     exact⟨n,by rw[hn];exact he⟩
    ·cases he
  | _=>exact⟨0,he⟩
 ·rintro⟨n,hn⟩;exact uk (Cm n) hn
theorem Ky:∀(ops:List bO) (st:aq) (wr:List Bool) (r:aq × List Bool),cQ (bZ aa) ops st wr=some r->∃n,cQ (cu aa n) ops st wr=some r
 |[],st,wr,r,he=>⟨0,he⟩
 |o::ops,st,wr,r,he=>by
  simp only[cQ]at he⊢
  split at he
  ·rename_i hw
   split at he
   ·rename_i v H' low' h1
    obtain⟨n,hn⟩:=F2.1 h1
    obtain⟨m,hm⟩:=Ky ops _ _ _ he
    refine⟨max n m,?_⟩
    rw[uk (mD aa (sQ n m)) hn]
    exact xR (mD aa (rv n m)) ops _ _ _ hm
   ·cases he
  ·rename_i hw
   obtain⟨m,hm⟩:=Ky ops _ _ _ he
   exact⟨m,hm⟩
  ·cases he
theorem jC (st:aq):dx aa .skip st=some (.normal,st):=ga.2 ⟨0,rfl⟩
theorem lf (id:Nat)(st:aq):dx aa (.exit id) st=some (.exit id,st):=ga.2 ⟨0,rfl⟩
theorem jD (st:aq):dx aa .ret st=some (.ret,st):=ga.2 ⟨0,rfl⟩
theorem F3:∀(ops:List bO) (st:aq) (r:List aq),fx (bZ aa) ops st=some r->∃n,fx (cu aa n) ops st=some r
 |[],st,r,he=>⟨0,he⟩
 |o::ops,st,r,he=>by
  simp only[fx]at he⊢
  split at he
  ·rename_i hw
   split at he
   ·rename_i v H' low' h1
    obtain⟨n,hn⟩:=F2.1 h1
    obtain⟨x,hx,rfl⟩:=ct.1 he
    obtain⟨m,hm⟩:=F3 ops _ _ hx
    refine⟨max n m,?_⟩
    rw[uk (mD aa (sQ n m)) hn]
    simp only[]
    rw[xS (mD aa (rv n m)) ops _ _ hm];rfl
   ·cases he
  ·rename_i hw
   obtain⟨x,hx,rfl⟩:=ct.1 he
   obtain⟨m,hm⟩:=F3 ops _ _ hx
   exact⟨m,by rw[hm];rfl⟩
  ·cases he
theorem aba{q:bO × aq × Heap}(he:jX (bZ aa) q=true):∃n,jX (cu aa n) q=true:=by
 unfold jX at he⊢
 split at he
 ·rename_i hw;exact⟨0,by try simp only[hw]⟩
 ·rename_i hw
  try simp only[hw]
  split at he
  ·rename_i v H1 bI h1
   split at he
   ·rename_i v2 H2 c5 h2
    obtain⟨n,hn⟩:=F2.1 h1
    obtain⟨m,hm⟩:=F2.1 h2
    refine⟨max n m,?_⟩
    rw[uk (mD aa (sQ n m)) hn,uk (mD aa (rv n m)) hm]
    exact he
   ·cases he
  ·cases he
 ·cases he
theorem Kz:∀(l:List (bO × aq × Heap)),l.all (jX (bZ aa))=true->∃n,l.all (jX (cu aa n))=true
 |[],_=>⟨0,rfl⟩
 |q::l,he=>by
  simp only[xG,b8]at he
  obtain⟨n,hn⟩:=aba he.1
  obtain⟨m,hm⟩:=Kz l he.2
  refine⟨max n m,?_⟩
  simp only[xG,b8]
  refine⟨Ac (mD aa (sQ n m)) hn,?_⟩
  rw[eV]at hm⊢
  exact fun q bc=>Ac (mD aa (rv n m)) (hm q bc)
theorem abb{dO:List Nat}{ops:List bO}{wr:List Bool}{st:aq}(he:qx (bZ aa) dO ops wr st=true):∃n,qx (cu aa n) dO ops wr st=true:=by
 unfold qx at he
 split at he
 ·rename_i cf ht
  simp only[b8]at he
  obtain⟨n,hn⟩:=F3 _ _ _ ht
  obtain⟨m,hm⟩:=Kz _ he.2
  refine⟨max n m,?_⟩
  unfold qx
  rw[xS (mD aa (sQ n m)) _ _ _ hn]
  simp only[b8]
  refine⟨he.1,?_⟩
  rw[eV]at hm⊢
  exact fun q bc=>Ac (mD aa (rv n m)) (hm q bc)
 ·cases he
theorem abc{dO:List Nat}{ops:List bO}{wr:List Bool}{st:aq}(he:nY (bZ aa) dO ops wr st=true):∃n,nY (cu aa n) dO ops wr st=true:=by
 unfold nY at he
 simp only[ko]at he
 rcases he with he|he
 ·obtain⟨n,hn⟩:=abb he
  exact⟨n,by unfold nY;rw[hn];rfl⟩
 ·split at he
  ·rename_i cf ht
   simp only[b8]at he
   obtain⟨n,hn⟩:=F3 _ _ _ ht
   obtain⟨m,hm⟩:=Kz _ he.2
   refine⟨max n m,?_⟩
   unfold nY
   rw[xS (mD aa (sQ n m)) _ _ _ hn]
   simp only[ko,b8]
   refine .inr ⟨he.1,?_⟩
   rw[eV]at hm⊢
   exact fun q bc=>Ac (mD aa (rv n m)) (hm q bc)
  ·cases he
theorem h6 (ops:List bO)(dO:Option (List Nat))(st:aq):dx aa (.region ops dO) st=match cQ (bZ aa) ops {st with aG:=[]} []with
  |some (aF,wr)=>match dO with
   |none=>some (.normal,{aF with aG:=[]})
   |some b=>if nX b ops wr||nY (bZ aa) b ops wr {st with aG:=[]}then some (.normal,{aF with aG:=[]})else none
  |none=>none:=by
 refine wu fun r=> ?_
 rw[ga]
 constructor
 ·rintro⟨n,hn⟩
  simp only[exec,aq.fp]at hn
  split at hn
  ·rename_i b4 wr h1
   rw[xR (Cm n) _ _ _ _ h1]
   cases dO with
   |none=>exact hn
   |some b=>
    simp only at hn⊢
    split at hn
    ·rename_i hb
     rw[if_pos]
     ·exact hn
     ·simp only[ko]at hb⊢
      exact hb.imp id (Kw (Cm n))
    ·cases hn
  ·cases hn
 ·intro h
  split at h
  ·rename_i b4 wr h1
   obtain⟨n,hn⟩:=Ky _ _ _ _ h1
   cases dO with
   |none=>exact⟨n,by simp only[exec,aq.fp];rw[hn];exact h⟩
   |some b=>
    simp only at h
    split at h
    ·rename_i hb
     simp only[ko]at hb
     rcases hb with hb|hb
     ·exact⟨n,by simp only[exec,aq.fp];rw[hn];simp only[];rw[hb];exact h⟩
     ·obtain⟨m,hm⟩:=abc hb
      refine⟨max n m,?_⟩
      simp only[exec,aq.fp]
      rw[xR (mD aa (sQ n m)) _ _ _ _ hn]
      simp only[]
      rw[Kw (mD aa (rv n m)) hm,Bool.or_true]
      exact h
    ·cases h
  ·cases h
theorem gn (a b:cj)(st:aq):dx aa (.seq a b) st=match dx aa a st with
  |some (.normal,aF)=>dx aa b aF
  |r=>r:=by
 refine wu fun r=> ?_
 rw[ga]
 constructor
 ·rintro⟨n,hn⟩
  simp only[exec,aq.fp]at hn
  split at hn
  ·rename_i b4 h1
   rw[ga.2 ⟨n,h1⟩]
   exact ga.2 ⟨n,hn⟩
  ·rename_i bf
   rw[ga.2 ⟨n,hn⟩]
   split
   ·rename_i b4 e;cases e;exact absurd hn (bf _)
   ·rfl
 ·intro h
  split at h
  ·rename_i b4 h1
   obtain⟨n,hn⟩:=ga.1 h1
   obtain⟨m,hm⟩:=ga.1 h
   exact⟨max n m,by simp only[exec,aq.fp];rw[uo (sQ n m) hn];exact uo (rv n m) hm⟩
  ·rename_i bf
   obtain⟨n,hn⟩:=ga.1 h
   refine⟨n,?_⟩
   simp only[exec,aq.fp]
   rw[hn]
   split
   ·rename_i b4 e;cases e;exact absurd h (bf _)
   ·rfl
theorem iO (c:ag)(t e:cj)(st:aq):dx aa (.cond c t e) st=match c.ae st.aG st.av with
  | .bool true=>dx aa t st
  | .bool false=>dx aa e st
  | _=>none:=by
 refine wu fun r=> ?_
 rw[ga]
 constructor
 ·rintro⟨n,hn⟩
  simp only[exec,aq.fp]at hn
  split at hn
  ·rename_i hc
   try simp only[hc]
   exact ga.2 ⟨n,hn⟩
  ·rename_i hc
   try simp only[hc]
   exact ga.2 ⟨n,hn⟩
  ·cases hn
 ·intro h
  split at h
  ·rename_i hc
   obtain⟨n,hn⟩:=ga.1 h
   exact⟨n,by simp only[exec,hc];exact hn⟩
  ·rename_i hc
   obtain⟨n,hn⟩:=ga.1 h
   exact⟨n,by simp only[exec,hc];exact hn⟩
  ·cases h
theorem jY (id:Nat)(c:cj)(st:aq):dx aa (.block id c) st=match dx aa c st with
  |some (.exit sU,aF)=>if sU=id then some (.normal,aF)else some (.exit sU,aF)
  |r=>r:=by
 refine wu fun r=> ?_
 rw[ga]
 constructor
 ·rintro⟨n,hn⟩
  simp only[exec,aq.fp]at hn
  split at hn
  ·rename_i h1
   rw[ga.2 ⟨n,h1⟩]
   exact hn
  ·rename_i bf
   rw[ga.2 ⟨n,hn⟩]
   split
   ·rename_i e;cases e;exact absurd hn (bf _ _)
   ·rfl
 ·intro h
  split at h
  ·rename_i h1
   obtain⟨n,hn⟩:=ga.1 h1
   exact⟨n,by simp only[exec,aq.fp];rw[hn];exact h⟩
  ·rename_i bf
   obtain⟨n,hn⟩:=ga.1 h
   refine⟨n,?_⟩
   simp only[exec,aq.fp]
   rw[hn]
   split
   ·rename_i e;cases e;exact absurd h (bf _ _)
   ·rfl
theorem abd{f:aq->Option (X × aq)}{n m:Nat}{st:aq}{r:X × aq}(hle:n<=m)(h:iter f n st=some r):iter f m st=some r:=F1 (fun _ _ h=>h) n m st r hle h
theorem py (c:cj)(st:aq):dx aa (.loop c) st=match dx aa c st with
  |some (.normal,aF)=>dx aa (.loop c) aF
  |r=>r:=by
 refine wu fun r=> ?_
 rw[ga]
 constructor
 ·rintro⟨n,hn⟩
  simp only[exec,aq.fp]at hn
  cases n with
  |zero=>cases hn
  |succ n=>
   simp only[iter]at hn
   split at hn
   ·rename_i b4 h1
    rw[ga.2 ⟨n+1,h1⟩]
    exact ga.2 ⟨n+1,by simp only[exec,aq.fp];exact abd (Ch n) hn⟩
   ·rename_i bf
    rw[ga.2 ⟨n+1,hn⟩]
    split
    ·rename_i e;cases e;exact absurd hn (bf _)
    ·rfl
 ·intro h
  split at h
  ·rename_i b4 h1
   obtain⟨n,hn⟩:=ga.1 h1
   obtain⟨m,hm⟩:=ga.1 h
   simp only[exec,aq.fp]at hm
   refine⟨max n m+1,?_⟩
   simp only[exec,iter]
   rw[uo (show n<=max n m+1 by omega) hn]
   exact F1 (fun st r hr=>uo (show m<=max n m+1 by omega) hr) m (max n m) _ _ (rv n m) hm
  ·rename_i bf
   obtain⟨n,hn⟩:=ga.1 h
   refine⟨n+1,?_⟩
   simp only[exec,iter]
   rw[uo (Ch n) hn]
   split
   ·rename_i e;cases e;exact absurd h (bf _)
   ·rfl
theorem F4 (f:ag)(ps:List Nat)(a b:cj)(st:aq):dx aa (.rangeFunc f ps a b) st=
  if(xN st.H st.ro&&wm (f.ae st.aG st.av))=false then none else
  match bZ aa (f.ae st.aG st.av) [.yield st.H.length] (st.H++[.loop .ready .normal st.av ps a b])with
  |some (_,H',low')=>match H'[st.H.length]? with
   |some (.loop ls sT _ _ _ _)=>if ls=.busy then none else some (sT,{st with H:=H'.set st.H.length .gone,low:=min st.low low'})
   | _=>none
  |none=>none:=by
 refine wu fun r=> ?_
 rw[ga]
 constructor
 ·rintro⟨n,hn⟩
  simp only[exec,aq.fp]at hn
  split at hn
  ·cases hn
  ·rename_i hc
   rw[if_neg hc]
   split at hn
   ·rename_i h1
    rw[Cm n _ _ _ _ h1]
    exact hn
   ·cases hn
 ·intro h
  split at h
  ·cases h
  ·rename_i hc
   split at h
   ·rename_i h1
    obtain⟨n,hn⟩:=um.1 h1
    exact⟨n,by simp only[exec,aq.fp];rw[if_neg hc,hn];exact h⟩
   ·cases h
theorem mE (i:Nat)(first caps args:List V)(H:Heap):bZ aa (.fn i first caps) args H=match aa i with
  |some (.code fn)=>fZ (dx aa) fn (first++args++caps) H
  |some (.ext spec)=>if bW (first++args++caps)then(spec (first++args++caps)).map fun v=>(v,H,H.length)else none
  |none=>none:=by
 refine wu fun r=> ?_
 rw[um]
 constructor
 ·rintro⟨n,hn⟩
  cases n with
  |zero=>simp[cu]at hn
  |succ n=>
   simp only[cu,qy]at hn
   split at hn
   ·rename_i h1;try simp only[h1]
    exact QY (ex':=dx aa) (fun c st r h=>ga.2 ⟨n,h⟩) hn
   ·rename_i h1;try simp only[h1]
    exact hn
   ·cases hn
 ·intro h
  cases ht:aa i with
  |none=>rw[ht]at h;cases h
  |some F=>
   rw[ht]at h
   cases F with
   |ext spec=>exact⟨1,by simp only[cu,qy,ht];exact h⟩
   |code fn=>
    simp only at h
    unfold fZ at h
    split at h
    ·rename_i hl
     split at h
     ·rename_i st h1
      obtain⟨n,hn⟩:=ga.1 h1
      exact⟨n+1,by simp only[cu,qy,ht,fZ];rw[if_pos hl,hn];exact h⟩
     ·rename_i st h1
      obtain⟨n,hn⟩:=ga.1 h1
      exact⟨n+1,by simp only[cu,qy,ht,fZ];rw[if_pos hl,hn];exact h⟩
     ·cases h
    ·cases h
theorem Q1 (l:Nat)(args:List V)(H:Heap):bZ aa (.yield l) args H=nZ (dx aa) l args H:=by
 refine wu fun r=> ?_
 rw[um]
 constructor
 ·rintro⟨n,hn⟩
  cases n with
  |zero=>simp[cu]at hn
  |succ n=>exact QZ (fun c st r h=>ga.2 ⟨n,h⟩) hn
 ·intro h
  unfold nZ at h
  split at h
  ·rename_i hl
   split at h
   ·rename_i hlen
    split at h
    ·rename_i st h1
     split at h
     ·rename_i h2
      split at h
      ·rename_i ar
       obtain⟨n,hn⟩:=ga.1 h1
       obtain⟨m,hm⟩:=ga.1 ar
       refine⟨max n m+1,?_⟩
       simp only[cu,qy,nZ,hl,hlen,if_true]
       simp only[uo (sQ n m) hn,h2,uo (rv n m) hm]
       exact h
      ·cases h
     ·cases h
    ·cases h
   ·cases h
  ·cases h
end Go.Abs
namespace Go.Abs
inductive F5 where
 |leaf
 |node (l:F5) (k:Nat) (f:bY) (r:F5)
def F5.get:F5->Nat->Option bY
 | .leaf,_=>none
 | .node l k f r,i=>bif Nat.blt i k then l.get i else bif Nat.blt k i then r.get i else some f
def je (l:List (List V × V)):List V->Option V:=fun args=>match l with
 |[]=>none
 |(aO,v)::r=>bif mV args aO then some v else je r args
def over (aa:Nat->Option bY)(k:Nat)(spec:List V->Option V):Nat->Option bY:=fun i=>bif Nat.beq i k then some (.ext spec)else aa i
def jf (aa:Nat->Option bY)(n i:Nat):List (List V × V)->Prop
 |[]=>True
 |(aO,v)::r=>(bs v=true/\cu aa n (.fn i [] []) aO []=some (v,[],0))/\jf aa n i r
end Go.Abs
namespace Go.Abs.bw
open Go Go.Abs
abbrev au (n:Int):V:=.int .i64 n
def Q2:V:=.agg [au 36,.str [50],au 7,au 8,.cp]
def abe:V:=.list 5 [Q2]
def Q3:V:=.agg [au 3,.str [115],au 0,au 9,abe]
def Q4:V:=.agg [au 35,.str [115],au 24,au 25,.cp]
def abf:V:=.list 5 [Q4]
def Q5:V:=.agg [au 11,.str [97],au 21,au 25,abf]
def abg:V:=.list 5 [Q5]
def Q6:V:=.agg [au 10,.str [],au 20,au 26,abg]
def abh:V:=.list 5 [Q6]
def Q7:V:=.agg [au 4,.str [114],au 10,au 27,abh]
def Q8:V:=.agg [au 35,.str [115],au 43,au 44,.cp]
def abj:V:=.list 5 [Q8]
def Q9:V:=.agg [au 24,.str [112],au 40,au 44,abj]
def abk:V:=.list 5 [Q9]
def Ra:V:=.agg [au 23,.str [],au 39,au 45,abk]
def Rb:V:=.agg [au 1,.str [],au 45,au 45,.cp]
def Rc:V:=.agg [au 35,.str [112],au 56,au 57,.cp]
def Rd:V:=.agg [au 36,.str [48],au 61,au 62,.cp]
def Re:V:=.list 5 [Rc,Rd]
def F6:V:=.agg [au 40,.str [33,61],au 56,au 62,Re]
def abl:V:=.list 5 [F6]
def Rf:V:=.agg [au 26,.str [],au 48,au 63,abl]
def Rg:V:=.agg [au 35,.str [112],au 73,au 74,.cp]
def abm:V:=.list 5 [Rg]
def Rh:V:=.agg [au 22,.str [114],au 71,au 75,abm]
def abn:V:=.list 5 [Rh]
def Ri:V:=.agg [au 28,.str [],au 64,au 76,abn]
def abo:V:=.list 5 [Rf,Ri]
def F7:V:=.agg [au 25,.str [],au 46,au 78,abo]
def abp:V:=.list 5 [Ra,Rb,F7]
def Rj:V:=.agg [au 9,.str [111],au 28,au 78,abp]
def Rk:V:=.list 5 [Q3,Q7,Rj]
def uq:V:=.agg [au 2,.str [],au 0,au 78,Rk]
def abq:V:=.agg [.str [112],au 0,au 0,au 0,au 0]
def Rl:V:=.list 5 [abq]
def abr:V:=.agg [.str [115],au 2]
def KA:V:=.list 2 [abr]
def abt:V:=.agg [au 40,.str [33,61],au 56,au 62,Re,au 0,au (-2),au 0,au 0]
def Rm:V:=.aU [abt,.cp]
def abu:V:=.agg [.str [112],au 0,au 0,au 0,au 1]
def Rn:V:=.list 5 [abu]
def abv:V:=.agg [.str [114],au 0,.list 1 [au 0],au 0,au 1,au 0]
def KB:V:=.list 6 [abv]
def abw:V:=.agg [.str [112],au 0,au 0,au 0]
def abx:V:=.list 4 [abw]
def aby:V:=.agg [.str [111],.bool false,abx,au 7]
def abz:V:=.list 4 [aby]
def wv:V:=.agg [au 2,.str [],au 0,au 78,Rk,KA,KB,.cp,abz]
def Ro:V:=.str [115,111,114,116,32,115,32,50,59,32,114,101,108,97,116,105,111,110,32,114,40,97,58,32,115,41,59,32,111,112,101,114,97,116,105,111,110,32,111,40,112,58,32,115,41,32,123,32,114,101,113,117,105,114,101,32,112,32,33,61,32,48,59,32,105,110,115,101,114,116,32,114,40,112,41,59,32,125]
def abA:V:=.agg [au 0,au (-1)]
def KC:V:=.list 2 [abA]
def abB:V:=.agg [au 0,au 0,KC,au 0,au 0,au 0]
def abC:V:=.agg [au 0,au 1]
def KD:V:=.list 2 [abC]
def abD:V:=.agg [au 0,au 0,KD,au 1,au 0,au 0]
def abE:V:=.agg [au 1,au (-1)]
def KE:V:=.list 2 [abE]
def abF:V:=.agg [au 0,au 0,KE,au 0,au 0,au 0]
def abG:V:=.agg [au 1,au 1]
def Cn:V:=.list 2 [abG]
def abH:V:=.agg [au 0,au 0,Cn,au 1,au 0,au 0]
def Rp:V:=.list 6 [abB,abD,abF,abH]
def abI:V:=.list 1 [.str [114]]
def abJ:V:=.agg [.str [111],.bool false,.list 1 [au 0]]
def abK:V:=.list 3 [abJ]
def abL:V:=.agg [au 0,.list 1 [au 1],Cn,.cp,.cp]
def abM:V:=.list 5 [abL]
def Rq:V:=.agg [.list 1 [au 2],KB,abI,Rp,abK,abM,.cp]
end Go.Abs.bw
namespace Go.Abs.bw
open Go Go.Abs
def Co:List V->Option V
 |[.str s]=>if s.all (fun b=>b<128)&&decide (s.length<4294967281)then some (if(Lib.fields s).isEmpty then .emp else .list 1 ((Lib.fields s).map .str))else none
 | _=>none
def Cp:List V->Option V
 |[.str s]=>if s.length<=18 then(Lib.atoi s).map fun n=>.aU [.int .i64 n,.ig]else none
 | _=>none
def F8:List V->Option V
 |[.str s,.int .u8 c]=>some (.int .i64 (Lib.indexByte s (UInt8.ofNat c.toNat)))
 | _=>none
def strs:List V->Option (List (List UInt8))
 |[]=>some []
 | .str s::r=>(strs r).map (s:: ·)
 | _=>none
def Cq:List V->Option V
 |[.cp,.str _]=>some (.str [])
 |[.list es ds,.str sep]=>match strs ds with
  |some l=>if es=1/\l≠[]/\l.length<=4096/\(Lib.join l sep).length<=1000000 then some (.str (Lib.join l sep))else none
  |none=>none
 | _=>none
def Cr:List V->Option V
 |[.int .i64 n]=>if 0<=n/\n<10 then some (.str [UInt8.ofNat (48+n.toNat)])else if -100000<n/\n<100000 then some (.str (Lib.itoa n))else none
 | _=>none
def KF:List V->Option V
 |[.int .u64 n]=>if n=0 then some (.int .i64 0)else if n=1 then some (.int .i64 1)else if n=2 then some (.int .i64 2)else none
 | _=>none
def KG:List V->Option V
 |[.str s,.str [c]]=>if c<128 then some (.str (s.dropWhile (· ==c)))else none
 | _=>none
def Rr:List (List V × V):=[([KC],KC),([KD],KD),([KE],KE),([Cn],Cn)]
def Rs:List (List V × V):=[([wv,au 0,.list 1 [au 1]],.aU [.agg [Cn,.cp,.cp],au 0])]
end Go.Abs.bw
