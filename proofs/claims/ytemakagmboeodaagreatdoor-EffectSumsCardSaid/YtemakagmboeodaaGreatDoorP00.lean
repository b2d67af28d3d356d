/- Texts of this claim, joined and written short by a program. -/
import Derived.Calls
import Derived.CheckFast
set_option linter.unusedVariables false
set_option linter.unusedSimpArgs false
set_option linter.unusedSectionVars false
namespace Go.Abs
set_option linter.defProp false
def ay := @Option.some.injEq
def bW := @Option.map_eq_some_iff
def aI := @Nat.le_refl
def a6 := @Prod.mk.injEq
def dm := @Nat.eq_of_beq_eq_true
def cH := @Bool.and_eq_true
def ft := @List.getElem?_append_left
def fu := @List.getElem?_eq_some_iff
def db := @List.prefix_rfl
def cA := @Nat.le_trans
def cW := @List.map_cons
def cY := @List.mem_cons
def dM := @Option.bind_some
def hz := @List.mem_zipIdx_iff_getElem?
def gk := @List.getElem?_eq_getElem
def ct := @Nat.zero_le
def e9 := @Array.length_toList
def fN := @Array.getElem?_toList
def fl := @List.prefix_append
def eV := @List.all_eq_true
def eA := @List.length_map
def dn := @List.mem_map
def fO := @List.length_append
def ga := @Bool.false_eq_true
def dK := @Nat.zero_add
def ie := @List.mem_cons_of_mem
def iL := @List.getElem?_set_ne
def kD := @Nat.exists_eq_add_of_le
def iM := @List.getElem?_map
def lN := @List.getElem?_cons_zero
def jl := @List.append_assoc
def k6 := @List.getElem?_eq_none
def hM := @List.map_append
def hN := @List.mem_append
def iN := @List.length_cons
def fF := @Nat.lt_or_ge
def ig := @Nat.min_le_left
def ij := @List.nil_append
def lO := @List.mem_append_right
def mi := @List.getElem?_set_self
def j0 := @List.flatMap_cons
def iO := @Bool.or_eq_true
def oX := @Array.getElem?_eq_some_iff
def mj := @Nat.le_of_ble_eq_true
def ml := @List.mem_of_getElem?
def k7 := @List.mem_cons_self
def q8 := @Array.getD_eq_getD_getElem?
def mm := @List.mem_map_of_mem
def n2 := @List.getElem?_toArray
def kE := @List.cons_append
def hP := @List.map_nil
def lP := @List.ext_getElem?
def mW := @List.map_congr_left
def oY := @List.mem_iff_getElem?
def mX := @Nat.lt_of_lt_of_le
def sD := @List.getElem?_append_right
def jm := @List.map_map
def mn := @Nat.min_le_right
def lQ := @List.append_nil
def lR := @Option.map_some
def u4 := @List.getD_eq_getElem?_getD
def sE := @Option.bind_eq_some_iff
def oZ := @List.mem_singleton
def q9 := @List.contains_iff_mem
def sF := @List.getElem?_cons_succ
def o0 := @List.pairwise_cons
def o1 := @Bool.not_eq_true'
def u5 := @List.length_eq_zero_iff
def o2 := @Nat.le_max_right
def n3 := @List.length_nil
def o3 := @Nat.min_eq_right
def n4 := @List.nodup_cons
def xh := @List.drop_eq_getElem_cons
def pW := @List.size_toArray
def xi := @List.sublist_append_right
def sG := @List.mem_append_left
def u6 := @Array.getElem?_eq_none
def ra := @List.nodup_append
def mo := @Nat.ne_of_lt
def pX := @Nat.le_max_left
def zN := @Array.getElem?_eq_getElem
def o4 := @List.drop_zero
def n9 := @Nat.add_assoc
def oa := @Bool.not_true
def sH := @Array.size_append
def rb := @Nat.min_eq_left
def sI := @List.length_take
def sJ := @Option.getD_some
def sK := @List.range'_succ
def CT := @List.getElem?_zip_eq_some
def sL := @Option.map_none
def u7 := @List.not_mem_nil
def zO := @List.mem_of_mem_drop
def zP := @List.set_append_left
def CU := @Int.eq_ofNat_of_zero_le
def re := @Bool.false_or
def zQ := @List.filterMap_cons
def CV := @List.take_of_length_le
def CW := @List.drop_of_length_le
def IG := @Array.getElem?_append_left
def xj := @List.length_drop
def xk := @Nat.lt_succ_self
def CX := @List.take_append_drop
def zR := @Nat.add_right_comm
def zS := @List.zip_cons_cons
def jn := @Ne.symm
def u9 := @List.drop_drop
def pY := @Nat.add_mul
def IH := @List.pairwise_iff_getElem
def CY := @List.mem_of_mem_take
def CZ := @Nat.mul_le_mul_right
def C0 := @List.getElem?_of_mem
def xl := @List.foldl_cons
def xm := @Option.some.inj
def Ui := @Array.getElem?_setIfInBounds_ne
def sM := @Nat.le_of_lt
def sN := @Nat.add_zero
def sO := @Nat.beq_refl
def C1 := @List.flatMap_append
def zT := @List.any_eq_true
def zU := @List.map_toArray
def zV := @List.mem_flatMap
def zW := @Nat.max_eq_right
def C2 := @List.getElem?_drop
def C3 := @List.getElem?_take
def C4 := @List.set_cons_zero
def C5 := @Nat.pos_of_ne_zero
def II := @Array.getElem?_modify
def zX := @Nat.max_eq_left
def xn := @Bool.and_true
def C6 := @Nat.lt_succ_of_lt
def C7 := @List.pairwise_map
def C8 := @List.Sublist.refl
def C9 := @List.flatten_cons
def Uj := @List.perm_ext_iff_of_nodup
def IJ := @Bool.or_eq_false_iff
def IK := @List.range_eq_range'
def IL := @List.pairwise_append
def zY := @Bool.and_assoc
def zZ := @List.nodup_nil
def Da := @Nat.le_add_right
def Db := @List.isEmpty_nil
def Dc := @List.filter_cons
def IM := @List.toList_toArray
def va := @Int.le_refl
def xo := @Nat.succ_mul
def sP := @Go.Calls.mono
def Dd := @List.cons.injEq
def IP := @List.set_cons_succ
def IQ := @Array.foldl_toList
def IU := @Nat.eq_zero_or_pos
def IV := @List.mem_filterMap
def z1 := @Bool.and_self
def De := @List.mem_filter
def xp := @Nat.le_succ
def IW := @Array.toList_push
def IX := @Bool.not_eq_false
def z6 := @Int.zero_add
def IY := @List.drop_append
def Df := @Bool.true_and
inductive V where
 |bool (b:Bool)
 |int (k:IntKind) (n:Int)
 |str (s:List UInt8)
 |ak
 |emp
 |list (es:Nat) (ds:List V)
 |agg (vs:List V)
 |aR (vs:List V)
 |gy
 |ptr (l o:Nat)
 |fm (l es i f tag:Nat)
 |dp (vs:List V) (f:Nat)
 |aN (l es off len tag:Nat)
 |hQ
 |map (l:Nat)
 |ik
 |fn (i:Nat) (first caps:List V)
 |yield (l:Nat)
 |gP
 |iface (t:Nat) (v:V)
 |undef
 deriving Inhabited
inductive ah where
 |tmp (t:Nat)
 |var (t:Nat)
 |const (v:V)
 |func (i:Nat)
 deriving Inhabited
inductive b8 where
 |mv (x:ah)
 |pick (c a b:ah)
 |alloc (z:List V)
 |box (x:ah)
 |build (z:List V) (parts:List (Nat × Nat × ah))
 |lit (es:Nat) (z:List V) (len:Nat) (parts:List (Nat × ah)) (gQ:Bool)
 |load (sh:Option Nat) (x:ah)
 |store (n:Nat) (a x:ah)
 |nilCheck (x:ah)
 |bin (op:BinOp) (x y:ah)
 |sQ (neg:Bool) (dN:List Nat) (x y:ah)
 |mY (kind:Nat) (neg:Bool) (x y:ah)
 |un (op:UnOp) (x:ah)
 |conv (k:IntKind) (x:ah)
 |z7 (t:Nat) (x:ah)
 |sR (i:Nat) (first caps:List ah)
 |mkMap
 |mkSlice (es:Nat) (z:List V) (bytes:Nat) (l c:ah)
 |rf (x:ah) (cS hi:Option ah)
 |pZ (es:Nat) (x:ah) (cS hi mx:Option ah)
 |fieldAddr (off:Nat) (x:ah)
 |field (off:Nat) (sh:Option Nat) (x:ah)
 |indexAddr (es:Nat) (x i:ah)
 |sS (x i:ah)
 |lookup (kind:Nat) (z:V) (x i:ah) (ok:Bool)
 |mZ (kind:Nat) (m k v:ah)
 |xq (kind:Nat) (m k:ah)
 |xr (a b:ah)
 |xt (a b:ah)
 |p2 (x:ah)
 |extract (x:ah) (i:Nat)
 |len (kind:Nat) (x:ah)
 |append (es bytes:Nat) (a b:ah)
 |rh (es bytes:Nat) (a b:ah)
 |p3 (mx:Bool) (x y:ah)
 |copy (es:Nat) (a b:ah)
 |call (raw:Bool) (f:ah) (args:List ah)
 |fail
 deriving Inhabited
structure bl where
 dst:Option (Nat × Bool)
 op:b8
 guard:Option (ah × Bool)
 deriving Inhabited
inductive bP where
 |skip
 |region (ops:List bl) (dc:Option (List Nat))
 |sT (ops:List bl) (ok:List Nat) (f:ah)
 |seq (a b:bP)
 |cond (c:ah) (t e:bP)
 |block (id:Nat) (body:bP)
 |loop (body:bP)
 |rangeFunc (f:ah) (params:List Nat) (assign body:bP)
 |exit (id:Nat)
 |ret
 |fail
 deriving Inhabited
inductive ki where
 |tmp (t:Nat)
 |cell (a:Nat) (sh:Option Nat)
 deriving Inhabited
structure gR where
 sU:Nat
 body:bP
 results:List ki
 fresh:Bool
 deriving Inhabited
abbrev Env:=List (Nat × V)
inductive X where
 |normal
 |exit (id:Nat)
 |ret
 deriving DecidableEq,Inhabited
inductive bd where
 |cells (vs:List V)
 |row (es:Nat) (ds:List V) (fz:Bool)
 |map (bA:List (V × V))
 |loop (st:LoopState) (ri:X) (env:Env) (params:List Nat) (assign body:bP)
 |o5 (s:List UInt8)
 |dead (n:Nat)
 |gone
 deriving Inhabited
abbrev Heap:=List bd
structure au where
 aH:Env
 ax:Env
 H:Heap
 low:Nat
 ro:Option Nat:=none
 deriving Inhabited
def aL:V->List V
 | .agg vs=>vs
 |v=>[v]
mutual
def bS:V->Bool
 | .bool _| .int _ _| .str _| .ak| .emp| .list _ _| .gy| .hQ| .ik| .gP=>true
 | .agg vs| .aR vs=>cB vs
 | .iface _ v=>bS v
 | .fn _ a b=>cB a&&cB b
 | _=>false
def cB:List V->Bool
 |[]=>true
 |v::r=>bS v&&cB r
end
mutual
def flat:V->Bool
 | .bool _| .int _ _| .str _| .ak| .emp| .gy| .hQ| .ik| .gP=>true
 | .agg vs| .aR vs=>p4 vs
 | _=>false
def p4:List V->Bool
 |[]=>true
 |v::r=>flat v&&p4 r
end
mutual
def old (n:Nat):V->Bool
 | .ptr l _| .fm l _ _ _ _| .aN l _ _ _ _| .map l| .yield l=>decide (l<n)
 | .agg vs| .aR vs=>olds n vs
 | .fn _ a b=>olds n a&&olds n b
 | .iface _ v=>old n v
 | .undef=>false
 | _=>true
def olds (n:Nat):List V->Bool
 |[]=>true
 |v::r=>old n v&&olds n r
end
def p5:V->Bool
 | .undef=>true
 | _=>false
def kF (cs:List V)(o:Nat):Option Nat->Option V
 |none=>cs[o]?
 |some n=>if o+n<=cs.length then some (.agg ((cs.drop o).take n))else none
def setCells (cs:List V)(o:Nat):List V->List V
 |[]=>cs
 |x::xs=>setCells (cs.set o x) (o+1) xs
def cJ:Env->Nat->V
 |[],_=>.undef
 |(k,v)::r,t=>if k=t then v else cJ r t
def dq:Env->Nat->V->Env
 |[],t,v=>[(t,v)]
 |(k,u)::r,t,v=>if k=t then(k,v)::r else(k,u)::dq r t v
def ah.ag (aH ax:Env):ah->V
 | .tmp t=>cJ aH t
 | .var t=>cJ ax t
 | .const v=>v
 | .func i=>.fn i [] []
def na (H:Heap)(sh:Option Nat):V->Option V
 | .ptr l o=>match H[l]? with
   |some (.cells vs)=>kF vs o sh
   | _=>none
 | .fm l es i f tag=>match H[l]? with
   |some (.row bG ds _)=>if bG=es/\ds.length=tag then(ds[i]?).bind fun d=>kF (aL d) f sh else none
   | _=>none
 | .dp vs f=>kF vs f sh
 | _=>none
def rj (d:V)(f:Nat)(xs:List V):Option V:=
 match d with
 | .agg vs=>if f+xs.length<=vs.length then some (.agg (setCells vs f xs))else none
 | _=>match f,xs with
   |0,[x]=>some x
   | _,_=>none
def e1:V->Bool
 | .agg _| .aR _| .undef=>false
 | _=>true
def b7:List V->Bool
 |[]=>true
 |v::r=>e1 v&&b7 r
def plainCell:V->Bool
 | .agg _| .aR _| .undef| .dp .. | .fm .. =>false
 | _=>true
def kG:List V->Bool
 |[]=>true
 |v::r=>plainCell v&&kG r
def p6 (H:Heap)(n:Nat)(a v:V):Option (Heap × Nat):=
 match a with
 | .ptr l o=>match H[l]? with
   |some (.cells vs)=>if(aL v).length=n/\o+n<=vs.length/\b7 (aL v)=true then some (H.set l (.cells (setCells vs o (aL v))),l)else none
   | _=>none
 | .fm l es i f tag=>match H[l]? with
   |some (.row bG ds false)=>
    if bG=es/\ds.length=tag/\(aL v).length=n/\kG (aL v)=true then
     match ds[i]? with
     |some d=>match rj d f (aL v)with
      |some d'=>some (H.set l (.row es (ds.set i d') false),l)
      |none=>none
     |none=>none
    else none
   | _=>none
 | _=>none
def il (f:Heap->Nat->V->Option (V × Heap × Nat))(H:Heap)(low:Nat):List V->Option (List V × Heap × Nat)
 |[]=>some ([],H,low)
 |v::r=>match f H low v with
  |some (v',H1,bm)=>match il f H1 bm r with
   |some (lS,cT,eH)=>some (v'::lS,cT,eH)
   |none=>none
  |none=>none
def ea:Nat->Heap->Nat->V->Option (V × Heap × Nat)
 |0,H,low,v=>if bS v then some (v,H,low)else none
 |n+1,H,low,v=>
  if bS v then some (v,H,low)else
  match v with
  | .agg vs=>match il (ea n) H low vs with
    |some (vs',H',low')=>some (.agg vs',H',low')
    |none=>none
  | .aR vs=>match il (ea n) H low vs with
    |some (vs',H',low')=>some (.aR vs',H',low')
    |none=>none
  | .aN l es off len tag=>match H[l]? with
    |some (.row bG ds fz)=>
     if bG=es/\ds.length=tag/\off+len<=ds.length then
      if cB ds=true then some (.list es ((ds.drop off).take len),if fz then H else H.set l (.row es ds true),if fz then low else min low l)
      else match il (ea n) H low ds with
       |some (ds',H',low')=>match H'[l]? with
        |some (.row IZ sV false)=>
         if IZ=es/\sV.length=tag/\cB ds'=true then some (.list es ((ds'.drop off).take len),H'.set l (.row es ds' true),min low' l)else none
        | _=>none
       |none=>none
     else none
    | _=>none
  |v=>some (v,H,low)
def hR (H:Heap)(low:Nat)(v:V):Option (V × Heap × Nat):=ea 16 H low v
def eL (H:Heap)(low:Nat):List V->Option (List V × Heap × Nat)
 |[]=>some ([],H,low)
 |v::r=>match hR H low v with
  |some (v',H1,bm)=>match eL H1 bm r with
   |some (lS,cT,eH)=>some (v'::lS,cT,eH)
   |none=>none
  |none=>none
def elems (H:Heap)(es:Nat):V->Option (List V)
 | .ak| .emp=>some []
 | .list bG ds=>if bG=es then some ds else none
 | .aN l bG off len tag=>match H[l]? with
   |some (.row dZ ds _)=>if bG=es/\dZ=es/\ds.length=tag/\off+len<=ds.length then some ((ds.drop off).take len)else none
   | _=>none
 | _=>none
def z8:V->Option Bool
 | .bool b=>some b
 | _=>none
def k8:V->Option Nat
 | .int _ n=>if 0<=n then some n.toNat else none
 | _=>none
def gl (op:BinOp)(x y:V):Option V:=
 match op,x,y with
 | .shl,.int k a,.int _ b=>if 0<=b/\b.toNat<=k.bits then some (.int k (k.wrap (a*2^b.toNat)))else none
 | .shr,.int k a,.int _ b=>if 0<=b/\b.toNat<=k.bits then some (.int k (a/2^b.toNat))else none
 |op,.int k a,.int bJ b=>
  if k≠bJ then none else
  match op with
  | .add=>some (.int k (k.wrap (a+b)))
  | .sub=>some (.int k (k.wrap (a-b)))
  | .mul=>some (.int k (k.wrap (a*b)))
  | .quo=>if b=0 then none else some (.int k (k.wrap (a.tdiv b)))
  | .rem=>if b=0 then none else some (.int k (a.tmod b))
  | .eql=>some (.bool (a==b))
  | .neq=>some (.bool (a != b))
  | .lss=>some (.bool (decide (a<b)))
  | .leq=>some (.bool (decide (a<=b)))
  | .gtr=>some (.bool (decide (a>b)))
  | .geq=>some (.bool (decide (a>=b)))
  | .and=>some (.int k (k.wrap ((BitVec.ofInt k.bits a &&& BitVec.ofInt k.bits b).toNat)))
  | _=>none
 | .add,.str a,.str b=>if a.length+b.length<=2^40 then some (.str (a++b))else none
 | .eql,.str a,.str b=>some (.bool (a==b))
 | .neq,.str a,.str b=>some (.bool (a != b))
 | _,_,_=>none
def mq (kind:Nat)(x y:V):Option Bool:=
 match kind,x,y with
 |0,.gy,.gy=>some true
 |0,.ptr _ _,.gy|0,.gy,.ptr _ _=>some false
 |1,.ak,.ak=>some true
 |1,.emp,.ak|1,.list _ _,.ak|1,.aN _ _ _ _ _,.ak=>some false
 |2,.ik,.ik=>some true
 |2,.fn _ _ _,.ik=>some false
 |3,.gP,.gP=>some true
 |3,.iface _ _,.gP=>some false
 |4,.bool a,.bool b=>some (a==b)
 | _,_,_=>none
def Aa (op:UnOp)(x:V):Option V:=
 match op,x with
 | .neg,.int k n=>some (.int k (k.wrap (0-n)))
 | .not,.bool b=>some (.bool !b)
 | _,_=>none
def gS:Nat->V->V->Option Bool
 |0,.int k a,.int bJ b=>if k=bJ then some (a==b)else none
 |1,.str a,.str b=>some (a==b)
 |2,.bool a,.bool b=>some (a==b)
 | _,_,_=>none
def hS:List Nat->List V->List V->Option Bool
 |[],[],[]=>some true
 |k::dN,a::x,b::y=>match gS k a b with
  |some e=>match hS dN x y with
   |some e'=>some (e&&e')
   |none=>none
  |none=>none
 | _,_,_=>none
def iP (kind:Nat)(k:V):List (V × V)->Option (Option V)
 |[]=>some none
 |(bJ,v)::r=>match gS kind k bJ with
  |some true=>some (some v)
  |some false=>iP kind k r
  |none=>none
def kH (kind:Nat)(k v:V):List (V × V)->List (V × V)
 |[]=>[(k,v)]
 |(bJ,u)::r=>if gS kind k bJ=some true then(k,v)::r else(bJ,u)::kH kind k v r
def nb (kind:Nat)(k:V):List (V × V)->List (V × V)
 |[]=>[]
 |(bJ,u)::r=>if gS kind k bJ=some true then r else(bJ,u)::nb kind k r
def bytesOf:List V->Option (List UInt8)
 |[]=>some []
 | .int .u8 n::r=>(bytesOf r).map (UInt8.ofNat n.toNat:: ·)
 | _=>none
def o6 (cs:List V):List (Nat × Nat × V)->Option (List V)
 |[]=>some cs
 |(off,n,v)::r=>if(aL v).length=n/\off+n<=cs.length/\b7 (aL v)=true then o6 (setCells cs off (aL v)) r else none
def lT (es:Nat)(ds:List V):List (Nat × V)->Option (List V)
 |[]=>some ds
 |(i,v)::r=>if(aL v).length=es/\i<ds.length/\b7 (aL v)=true then lT es (ds.set i v) r else none
def jo (z:List V):V:=match z with|[x]=>x| _=>.agg z
def eM (ag:ah->V)(Dg:Nat):Option ah->Option Nat
 |none=>some Dg
 |some x=>k8 (ag x)
def step (ag:ah->V)(H:Heap)(low:Nat):b8->Option (V × Heap × Nat)
 | .mv x=>some (ag x,H,low)
 | .pick c a b=>(z8 (ag c)).map fun t=>(if t then ag a else ag b,H,low)
 | .alloc z=>some (.ptr H.length 0,H++[.cells z],low)
 | .box x=>if b7 (aL (ag x))then some (.ptr H.length 0,H++[.cells (aL (ag x))],low)else none
 | .build z parts=>(o6 z (parts.map fun p=>(p.1,p.2.1,ag p.2.2))).map fun cs=>(.agg cs,H,low)
 | .lit es z len parts gQ=>match eL H low (parts.map fun p=>ag p.2)with
   |some (vs,H',low')=>match lT es (List.replicate len (jo z)) ((parts.zip vs).map fun(p,v)=>(p.1,v))with
    |some ds=>
     if gQ then(if cB ds then some (if len=0 then .emp else .list es ds,H',low')else none)
     else if len=0 then some (.emp,H',low')else some (.aN H'.length es 0 len len,H'++[.row es ds false],low')
    |none=>none
   |none=>none
 | .load sh x=>(na H sh (ag x)).map fun v=>(v,H,low)
 | .store n a x=>(p6 H n (ag a) (ag x)).map fun(H',l)=>(.undef,H',min low l)
 | .nilCheck x=>match ag x with
   | .ptr l o=>some (.ptr l o,H,low)
   | .fm l es i f tag=>some (.fm l es i f tag,H,low)
   | .dp vs f=>some (.dp vs f,H,low)
   | .fn i a b=>some (.fn i a b,H,low)
   | _=>none
 | .bin op x y=>(gl op (ag x) (ag y)).map fun v=>(v,H,low)
 | .sQ neg dN x y=>match ag x,ag y with
   | .agg a,.agg b=>(hS dN a b).map fun e=>(.bool (if neg then !e else e),H,low)
   | _,_=>none
 | .mY kind neg x y=>(mq kind (ag x) (ag y)).map fun e=>(.bool (if neg then !e else e),H,low)
 | .un op x=>(Aa op (ag x)).map fun v=>(v,H,low)
 | .conv k x=>match ag x with
   | .int _ n=>some (.int k (k.wrap n),H,low)
   | _=>none
 | .z7 t x=>match hR H low (ag x)with
   |some (v,H',low')=>some (.iface t v,H',low')
   |none=>none
 | .sR i a b=>some (.fn i (a.map ag) (b.map ag),H,low)
 | .mkMap=>some (.map H.length,H++[.map []],low)
 | .mkSlice es z bytes l c=>match ag l,ag c with
   | .int _ n,.int _ m=>if n=m/\0<=n/\n*(bytes+1)<=2^40 then
     (if n=0 then some (.emp,H,low)else
       some (.aN H.length es 0 n.toNat n.toNat,H++[.row es (List.replicate n.toNat (jo z)) false],low))else none
   | _,_=>none
 | .rf x cS hi=>match ag x with
   | .str s=>match eM ag 0 cS,eM ag s.length hi with
     |some a,some b=>if a<=b/\b<=s.length then some (.str ((s.take b).drop a),H,low)else none
     | _,_=>none
   | _=>none
 | .pZ es x cS hi mx=>match ag x with
   | .ak=>match eM ag 0 cS,eM ag 0 hi,eM ag 0 mx with
     |some 0,some 0,some 0=>some (.ak,H,low)
     | _,_,_=>none
   | .emp=>match eM ag 0 cS,eM ag 0 hi,eM ag 0 mx with
     |some 0,some 0,some 0=>some (.emp,H,low)
     | _,_,_=>none
   | .list bG ds=>match eM ag 0 cS,eM ag ds.length hi with
     |some a,some b=>if a<=b/\b<=ds.length/\bG=es then
       match mx with
       |none=>some (.list es ((ds.take b).drop a),H,low)
       |some m=>if k8 (ag m)=some 0/\b=0 then some (.emp,H,low)else none
      else none
     | _,_=>none
   | .aN l bG off len tag=>match eM ag 0 cS,eM ag len hi with
     |some a,some b=>if a<=b/\b<=len/\bG=es then
       match mx with
       |none=>match H[l]? with
        |some (.row dZ ds _)=>if ds.length=tag/\dZ=es then(if a<b then some (.aN l es (off+a) (b-a) tag,H,low)else some (.list es [],H,low))else none
        | _=>none
       |some m=>if k8 (ag m)=some 0/\b=0 then some (.emp,H,low)else none
      else none
     | _,_=>none
   | _=>none
 | .fieldAddr off x=>match ag x with
   | .ptr l o=>some (.ptr l (o+off),H,low)
   | .fm l es i f tag=>some (.fm l es i (f+off) tag,H,low)
   | .dp vs f=>some (.dp vs (f+off),H,low)
   | _=>none
 | .field off sh x=>match ag x with
   | .agg vs=>(kF vs off sh).map fun v=>(v,H,low)
   | _=>none
 | .indexAddr es x i=>match k8 (ag i)with
   |some i=>match ag x with
    | .list bG ds=>if bG=es then(ds[i]?).map fun d=>(.dp (aL d) 0,H,low)else none
    | .aN l bG off len tag=>match H[l]? with
      |some (.row dZ ds _)=>if bG=es/\dZ=es/\ds.length=tag/\i<len/\off+len<=ds.length then some (.fm l es (off+i) 0 tag,H,low)else none
      | _=>none
    | _=>none
   |none=>none
 | .sS x i=>match ag x,k8 (ag i)with
   | .str s,some i=>(s[i]?).map fun c=>(.int .u8 c.toNat,H,low)
   | _,_=>none
 | .lookup kind z x i ok=>match ag x with
   | .hQ=>some (if ok then .aR [z,.bool false]else z,H,low)
   | .map l=>match H[l]? with
     |some (.map bA)=>match iP kind (ag i) bA with
      |some (some v)=>some (if ok then .aR [v,.bool true]else v,H,low)
      |some none=>some (if ok then .aR [z,.bool false]else z,H,low)
      |none=>none
     | _=>none
   | _=>none
 | .mZ kind m k v=>match hR H low (ag v)with
   |some (v',H',low')=>if p5 v' then none else match ag m with
    | .map l=>match H'[l]? with
      |some (.map bA)=>match iP kind (ag k) bA with
       |some _=>some (.undef,H'.set l (.map (kH kind (ag k) v' bA)),min low' l)
       |none=>none
      | _=>none
    | _=>none
   |none=>none
 | .xq kind m k=>match ag m with
   | .hQ=>some (.aR [],H,low)
   | .map l=>match H[l]? with
     |some (.map bA)=>match iP kind (ag k) bA with
      |some _=>some (.aR [],H.set l (.map (nb kind (ag k) bA)),min low l)
      |none=>none
     | _=>none
   | _=>none
 | .xr a b=>match ag b with
   | .str s=>
     if s.isEmpty then
      match ag a with
      | .ak=>some (.ak,H,low)
      | .emp=>some (.emp,H,low)
      | .aN l bG off len tag=>match H[l]? with
        |some (.row _ ds _)=>if ds.length=tag then some (.aN l bG off len tag,H,low)else none
        | _=>none
      | _=>none
     else
      let xs:List V:=s.map fun c=>.int .u8 c.toNat
      match ag a with
      | .ak=>if xs.length*2<=2^40 then some (.aN H.length 1 0 xs.length xs.length,H++[.row 1 xs false],low)else none
      | .emp=>if xs.length*2<=2^40 then some (.aN H.length 1 0 xs.length xs.length,H++[.row 1 xs false],low)else none
      | .aN l bG off len tag=>match H[l]? with
        |some (.row dZ ds false)=>
         if bG=1/\dZ=1/\ds.length=tag/\off=0/\len=tag/\(len+xs.length)*2<=2^40 then
          some (.aN l 1 0 (len+xs.length) (len+xs.length),H.set l (.row 1 (ds++xs) false),min low l)
         else none
        | _=>none
      | _=>none
   | _=>none
 | .xt a b=>match ag a,ag b with
   | .ak,.str s=>
     if s.isEmpty then some (.ak,H,low)
     else if s.length*2<=2^40 then some (.aN H.length 1 0 s.length s.length,H++[.o5 s],low)else none
   | .aN l es off len tag,.str s=>match H[l]? with
     |some (.o5 r)=>if s.isEmpty=false/\es=1/\off=0/\len=tag/\r.length=tag/\(len+s.length)*2<=2^40 then
       some (.aN l 1 0 (len+s.length) (len+s.length),H.set l (.o5 (r++s)),min low l)else none
     | _=>none
   | _,_=>none
 | .p2 x=>match elems H 1 (ag x)with
   |some ds=>(bytesOf ds).map fun s=>(.str s,H,low)
   |none=>none
 | .extract x i=>match ag x with
   | .aR vs=>(vs[i]?).map fun v=>(v,H,low)
   | _=>none
 | .len kind x=>match kind,ag x with
   |0,.str s=>some (.int .i64 s.length,H,low)
   |1,.ak|1,.emp=>some (.int .i64 0,H,low)
   |1,.list _ ds=>some (.int .i64 ds.length,H,low)
   |1,.aN l es _ len tag=>match H[l]? with
    |some (.row bG ds _)=>if bG=es/\ds.length=tag then some (.int .i64 len,H,low)else none
    |some (.o5 r)=>if r.length=tag then some (.int .i64 len,H,low)else none
    | _=>none
   |2,.hQ=>some (.int .i64 0,H,low)
   |2,.map l=>match H[l]? with
    |some (.map bA)=>some (.int .i64 bA.length,H,low)
    | _=>none
   | _,_=>none
 | .rh es bytes a b=>match elems H es (ag b)with
   |some xs=>if cB xs=false then none else match ag a with
    | .ak=>if xs.isEmpty then some (.ak,H,low)else if b7 (xs.flatMap aL)=true/\xs.length*(bytes+1)<=2^40 then some (.list es xs,H,low)else none
    | .emp=>if xs.isEmpty then some (.emp,H,low)else if b7 (xs.flatMap aL)=true/\xs.length*(bytes+1)<=2^40 then some (.list es xs,H,low)else none
    | _=>none
   |none=>none
 | .append es bytes a b=>match elems H es (ag b)with
   |some xs=>match eL H low xs with
    |some (xs,H',low')=>
     if xs.isEmpty then
      match ag a with
      | .ak=>some (.ak,H',low')
      | .emp=>some (.emp,H',low')
      | .list bG ds=>some (.list bG ds,H',low')
      | .aN l bG off len tag=>match H'[l]? with
        |some (.row _ ds _)=>if ds.length=tag then some (.aN l bG off len tag,H',low')else none
        | _=>none
      | _=>none
     else if b7 (xs.flatMap aL)=false then none else
     match ag a with
     | .ak=>if xs.length*(bytes+1)<=2^40 then
       some (.aN H'.length es 0 xs.length xs.length,H'++[.row es xs false],low')else none
     | .emp=>if xs.length*(bytes+1)<=2^40 then
       some (.aN H'.length es 0 xs.length xs.length,H'++[.row es xs false],low')else none
     | .aN l bG off len tag=>match H'[l]? with
       |some (.row dZ ds false)=>
        if bG=es/\dZ=es/\ds.length=tag/\off=0/\len=tag/\(len+xs.length)*(bytes+1)<=2^40 then
         some (.aN l es 0 (len+xs.length) (len+xs.length),H'.set l (.row es (ds++xs) false),min low' l)
        else none
       | _=>none
     | _=>none
    |none=>none
   |none=>none
 | .p3 mx x y=>match ag x,ag y with
   | .int k a,.int bJ b=>if k=bJ then some (.int k (if mx then max a b else min a b),H,low)else none
   | _,_=>none
 | .copy es a b=>match ag a,elems H es (ag b)with
   | .ak,some _| .emp,some _=>some (.int .i64 0,H,low)
   | .aN l bG off len tag,some xs=>match H[l]? with
     |some (.row dZ ds false)=>
      if bG=es/\dZ=es/\ds.length=tag/\off+len<=ds.length/\kG (xs.flatMap aL)=true then
       some (.int .i64 ((min len xs.length:Nat):Int),H.set l (.row es (ds.take off++xs.take len++ds.drop (off+min len xs.length)) false),min low l)
      else none
     | _=>none
   | _,_=>none
 | .call _ _ _=>none
 | .fail=>none
abbrev cj:=V->List V->Heap->Option (V × Heap × Nat)
def hU (aH ax:Env):Option (ah × Bool)->Option Bool
 |none=>some true
 |some (t,b)=>match t.ag aH ax with
  | .bool c=>some (c==b)
  | .aR []=>some false
  | _=>none
def au.put (st:au):Option (Nat × Bool)->V->au
 |none,_=>st
 |some (t,true),v=>{st with ax:=dq st.ax t v}
 |some (t,false),v=>{st with aH:=(t,v)::st.aH}
def bK (call:cj)(ag:ah->V)(H:Heap)(low:Nat):b8->Option (V × Heap × Nat)
 | .call true f args=>match call (ag f) (args.map ag) H with
   |some (v,H',l)=>some (v,H',min low l)
   |none=>none
 | .call false f args=>match eL H low (args.map ag)with
   |some (vs,H',low')=>match call (ag f) vs H' with
    |some (v,Dh,l)=>if flat v=true/\H'.length<=l then some (v,H,low)else some (v,Dh,min low' l)
    |none=>none
   |none=>none
 |op=>step ag H low op
def ec (H H':Heap)(low:Nat):Bool:=decide (low<H.length)||H'.length != H.length
def cX (call:cj):List bl->au->List Bool->Option (au × List Bool)
 |[],st,wr=>some (st,wr.reverse)
 |o::r,st,wr=>
  match hU st.aH st.ax o.guard with
  |some true=>match bK call (ah.ag st.aH st.ax) st.H st.H.length o.op with
   |some (v,H',low')=>cX call r ({st with H:=H',low:=min st.low low'}.put o.dst v) (ec st.H H' low'::wr)
   |none=>none
  |some false=>cX call r (st.put o.dst (.aR [])) (false::wr)
  |none=>none
def e2:b8->Bool
 | .mv _| .pick .. | .build .. | .nilCheck _| .bin .. | .sQ .. | .mY .. | .un .. | .conv .. | .sR .. | .rf .. | .fieldAddr .. | .field .. | .sS .. | .extract .. | .p3 .. =>false
 | _=>true
def b8.operands:b8->List ah
 | .mv x| .box x| .load _ x| .nilCheck x| .un _ x| .conv _ x| .z7 _ x| .fieldAddr _ x| .field _ _ x| .extract x _| .len _ x=>[x]
 | .pick a b c=>[a,b,c]
 | .alloc _| .mkMap| .fail=>[]
 | .build _ parts=>parts.map (·.2.2)
 | .lit _ _ _ parts _=>parts.map (·.2)
 | .store _ a x| .bin _ a x| .sQ _ _ a x| .mY _ _ a x| .mkSlice _ _ _ a x| .indexAddr _ a x| .sS a x| .lookup _ _ a x _| .append _ _ a x| .rh _ _ a x| .p3 _ a x| .copy _ a x=>[a,x]
 | .sR _ a b=>a++b
 | .rf x cS hi=>x::(cS.toList++hi.toList)
 | .pZ _ x cS hi mx=>x::(cS.toList++hi.toList++mx.toList)
 | .mZ _ m k v=>[m,k,v]
 | .xq _ m k=>[m,k]
 | .xr a b=>[a,b]
 | .xt a b=>[a,b]
 | .p2 x=>[x]
 | .call _ f args=>f::args
def xu (dc:List Nat)(ops:List bl)(wr:List Bool):Bool:=
 if wr.any id then
  (wr.zipIdx).all fun(w,i)=>!w||(ops.zipIdx).all fun(o,j)=>
    !e2 o.op||i==j||(if j<i then(dc.getD i 0).testBit j else(dc.getD j 0).testBit i)
 else true
def rk (ops:List bl):Bool:=ops.all fun o=>!e2 o.op||match o.op,o.guard with
 | .mkSlice ..,none=>true
 | _,_=>false
def p7 (dc:List Nat)(ops:List bl)(wr:List Bool):Bool:=xu dc ops wr||rk ops
mutual
def de:V->V->Bool
 | .bool a,.bool b=>a==b
 | .int k n,.int bJ m=>decide (k=bJ)&&decide (n=m)
 | .str s,.str ao=>decide (s=ao)
 | .ak,.ak| .emp,.emp| .gy,.gy| .hQ,.hQ| .ik,.ik| .gP,.gP| .undef,.undef=>true
 | .list e ds,.list e' ds'=>decide (e=e')&&hX ds ds'
 | .agg a,.agg b| .aR a,.aR b=>hX a b
 | .ptr l o,.ptr eB cC=>decide (l=eB)&&decide (o=cC)
 | .fm a b c d e,.fm bg dE c' d' e'=>decide (a=bg)&&(decide (b=dE)&&(decide (c=c')&&(decide (d=d')&&decide (e=e'))))
 | .dp vs f,.dp vs' jD=>hX vs vs'&&decide (f=jD)
 | .aN a b c d e,.aN bg dE c' d' e'=>decide (a=bg)&&(decide (b=dE)&&(decide (c=c')&&(decide (d=d')&&decide (e=e'))))
 | .map l,.map eB| .yield l,.yield eB=>decide (l=eB)
 | .fn i a b,.fn xv bg dE=>decide (i=xv)&&(hX a bg&&hX b dE)
 | .iface t v,.iface dr v'=>decide (t=dr)&&de v v'
 | _,_=>false
def hX:List V->List V->Bool
 |[],[]=>true
 |a::r,b::s=>de a b&&hX r s
 | _,_=>false
end
def ee (call:cj):List bl->au->Option (List au)
 |[],st=>some [st]
 |o::r,st=>
  match hU st.aH st.ax o.guard with
  |some true=>match bK call (ah.ag st.aH st.ax) st.H st.H.length o.op with
   |some (v,H',low')=>(ee call r ({st with H:=H',low:=min st.low low'}.put o.dst v)).map (st:: ·)
   |none=>none
  |some false=>(ee call r (st.put o.dst (.aR []))).map (st:: ·)
  |none=>none
def lU (dc:List Nat)(i j:Nat):Bool:=if j<i then(dc.getD i 0).testBit j else(dc.getD j 0).testBit i
def gF (call:cj)(q:bl × au × Heap):Bool:=
 match hU q.2.1.aH q.2.1.ax q.1.guard with
 |some false=>true
 |some true=>match bK call (ah.ag q.2.1.aH q.2.1.ax) q.2.1.H q.2.1.H.length q.1.op with
  |some (v,_,_)=>match bK call (ah.ag q.2.1.aH q.2.1.ax) q.2.2 q.2.2.length q.1.op with
   |some (v',H',low')=>de v v'&&!ec q.2.2 H' low'
   |none=>false
  |none=>false
 |none=>false
def Ab (dc:List Nat)(wr:List Bool):Bool:=
 wr.zipIdx.all fun(w,i)=>!w||wr.zipIdx.all fun(w',j)=>!w'||i==j||lU dc i j
def Ac (dc:List Nat)(ops:List bl)(wr:List Bool)(cg:List au):List (bl × au × Heap):=
 ops.zipIdx.flatMap fun(o,j)=>if !e2 o.op||wr.getD j false then[]else
  cg.zipIdx.flatMap fun(vb,k)=>if k==j||(k != 0&&!wr.getD (k-1) false)||wr.zipIdx.any (fun(w,i)=>w&&(i != j&&(lU dc i j&&(decide (i<j) != decide (i<k)))))then[]else
    match cg[j]? with
    |some Ad=>[(o,Ad,vb.H)]
    |none=>[]
def nc (call:cj)(dc:List Nat)(ops:List bl)(wr:List Bool)(st:au):Bool:=
 match ee call ops st with
 |some cg=>Ab dc wr&&(Ac dc ops wr cg).all (gF call)
 |none=>false
def xw (o:bl):Bool:=match o.op,o.guard with
 | .alloc _,none=>true
 | _,_=>false
def im (ops:List bl):Nat:=(ops.takeWhile fun o=>!xw o).length
def lV (ops:List bl):Nat:=im ops+((ops.drop (im ops)).takeWhile xw).length
def rl (dc:List Nat)(ops:List bl)(wr:List Bool):Bool:=
 let p:=im ops;let q:=lV ops
 (wr.take p).all (!·)&&((wr.zipIdx).all fun(w,i)=>!w||Nat.blt i q||(ops.zipIdx).all fun(o,j)=>!e2 o.op||Nat.blt j p||i==j||lU dc i j)&&
   (ops.zipIdx).all fun(o,j)=>!e2 o.op||Nat.blt j q||(List.range' p (q-p)).all fun i=>lU dc i j
def vc (ops:List bl)(cg:List au):List (bl × au × Heap):=(cg.drop (lV ops)).flatMap fun T=>
 ((ops.zip cg).take (im ops)).filterMap fun(o,s)=>if e2 o.op then some (o,s,T.H)else none
def k9 (call:cj)(dc:List Nat)(ops:List bl)(wr:List Bool)(st:au):Bool:=
 nc call dc ops wr st||match ee call ops st with
  |some cg=>rl dc ops wr&&(vc ops cg).all (gF call)
  |none=>false
def iter (f:au->Option (X × au)):Nat->au->Option (X × au)
 |0,_=>none
 |n+1,st=>match f st with
  |some (.normal,aV)=>iter f n aV
  |r=>r
def Di:V->Bool
 | .fn .. =>true
 | _=>false
def Dj (ok:List Nat):V->Bool
 | .fn i [] _=>ok.contains i
 | _=>false
def I0 (H:Heap):Option Nat->Bool
 |none=>true
 |some l=>match H[l]? with
  |some (.loop ..)=>true
  | _=>false
def au.closed (st:au):au:=match Nat.ble st.low 0 with
 |true=>{st with aH:=[]}
 |false=>{st with aH:=[]}
theorem au.eu (st:au):st.closed={st with aH:=[]}:=by
 unfold au.closed;split<;>rfl
def exec (call:cj)(n:Nat):bP->au->Option (X × au)
 | .skip,st=>some (.normal,st)
 | .region ops dc,st=>match cX call ops {st with aH:=[]} []with
   |some (aV,wr)=>match dc with
    |none=>some (.normal,aV.closed)
    |some b=>if p7 b ops wr||k9 call b ops wr {st with aH:=[]}then some (.normal,aV.closed)else none
   |none=>none
 | .sT ops ok f,st=>match cX call ops {st with aH:=[]} []with
   |some (aV,_)=>if(st.ro.isNone&&Dj ok (f.ag aV.aH aV.ax))=true then some (.normal,aV.closed)else none
   |none=>none
 | .seq a b,st=>match exec call n a st with
   |some (.normal,aV)=>exec call n b aV
   |r=>r
 | .cond c t e,st=>match c.ag st.aH st.ax with
   | .bool true=>exec call n t st
   | .bool false=>exec call n e st
   | _=>none
 | .block id c,st=>match exec call n c st with
   |some (.exit o7,aV)=>if o7=id then some (.normal,aV)else some (.exit o7,aV)
   |r=>r
 | .loop c,st=>iter (exec call n c) n st
 | .rangeFunc f params assign body,st=>
   let l:=st.H.length
   if(I0 st.H st.ro&&Di (f.ag st.aH st.ax))=false then none else
   match call (f.ag st.aH st.ax) [.yield l] (st.H++[.loop .ready .normal st.ax params assign body])with
   |some (_,H',low')=>match H'[l]? with
    |some (.loop ls ri _ _ _ _)=>if ls=.busy then none else some (ri,{st with H:=H'.set l .gone,low:=min st.low low'})
    | _=>none
   |none=>none
 | .exit id,st=>some (.exit id,st)
 | .ret,st=>some (.ret,st)
 | .fail,_=>none
def nd (ax:Env)(H:Heap):ki->Option V
 | .tmp t=>some (cJ ax t)
 | .cell a sh=>na H sh (cJ ax a)
def hY (env:Env)(H:Heap):List ki->Option (List V)
 |[]=>some []
 |r::rs=>match nd env H r with
  |some v=>match hY env H rs with
   |some vs=>some (v::vs)
   |none=>none
  |none=>none
def fo:Nat->List V->Env
 | _,[]=>[]
 |i,v::r=>(i,v)::fo (i+1) r
def finish (fresh:Bool)(fc:Heap)(v:V)(H:Heap)(low:Nat):Option (V × Heap × Nat):=
 match fresh,v with
 |true,.aN l es off len tag=>match H[l]? with
  |some (.row bG ds false)=>
   if fc.length<=low/\fc.length<=l/\bG=es/\ds.length=tag/\olds fc.length ds=true then some (.aN fc.length es off len tag,fc++[.row es ds false],fc.length)else if l<fc.length then some (.aN l es off len tag,H,low)else none
  | _=>none
 | _,v=>match hR H low v with
   |some (v',H',low')=>if fc.length<=low'/\old fc.length v'=true then some (v',fc,fc.length)else some (v',H',low')
   |none=>none
abbrev o8:=List V->Heap->Option (V × List (Nat × bd) × List bd)
inductive bQ where
 |code (f:gR)
 |ext (spec:List V->Option V)
 |lW (spec:o8)
 deriving Inhabited
def rm (H:Heap)(l:List (Nat × bd)):Heap:=l.foldl (fun H p=>H.set p.1 p.2) H
def sW (n:Nat)(l:List (Nat × bd)):Nat:=l.foldl (fun n p=>min n p.1) n
def o9 (spec:o8)(args:List V)(H:Heap):Option (V × Heap × Nat):=(spec args H).map fun r=>(r.1,rm H r.2.1++r.2.2,sW H.length r.2.1)
def fP (ex:bP->au->Option (X × au))(f:gR)(args:List V)(H:Heap):Option (V × Heap × Nat):=
 if args.length<=f.sU then
  match ex f.body {aH:=[],ax:=fo 0 args,H,low:=H.length}with
  |some (.normal,st)|some (.ret,st)=>match hY st.ax st.H f.results with
   |some [v]=>finish f.fresh H v st.H st.low
   |some vs=>finish f.fresh H (.aR vs) st.H st.low
   |none=>none
  | _=>none
 else none
def rn (ex:bP->au->Option (X × au))(l:Nat)(args:List V)(H:Heap):Option (V × Heap × Nat):=
 match H[l]? with
 |some (.loop .ready _ env params assign body)=>
  if args.length=params.length then
   match ex assign {aH:=[],ax:=(params.zip args).foldl (fun e (t,v)=>dq e t v) env,H,low:=H.length,ro:=some l}with
   |some (.normal,st)=>match st.H[l]? with
    |some (.loop .ready p I1 ps aC bL)=>match ex body {st with H:=st.H.set l (.loop .busy p I1 ps aC bL),low:=min st.low l}with
     |some (x,aV)=>match aV.H[l]? with
      |some (.loop _ _ Uk I2 ob I3)=>
       some (.bool (x=.normal),aV.H.set l (.loop (if x=.normal then .ready else .done) x Uk I2 ob I3),min aV.low l)
      | _=>none
     |none=>none
    | _=>none
   | _=>none
  else none
 | _=>none
def nf (ab:Nat->Option bQ)(call:cj)(n:Nat):cj:=fun f args H=>
 match f with
 | .fn i first caps=>match ab i with
   |some (.code fn)=>fP (exec call n) fn (first++args++caps) H
   |some (.ext spec)=>if cB (first++args++caps)then(spec (first++args++caps)).map fun v=>(v,H,H.length)else none
   |some (.lW spec)=>o9 spec (first++args++caps) H
   |none=>none
 | .yield l=>rn (exec call n) l args H
 | _=>none
def aS (ab:Nat->Option bQ):Nat->cj
 |0=>fun _ _ _=>none
 |n+1=>nf ab (aS ab n) n
end Go.Abs
namespace Go.Abs
open Go
mutual
def j1:Value->Option V
 | .bool b=>some (.bool b)
 | .int k n=>some (.int k n)
 | .string s=>some (.str s.data.toList)
 | .pointer none=>some .gy
 | .slice none 0 0=>some .ak
 | .map none=>some .hQ
 | .nilFunc=>some .ik
 | .nilIface=>some .gP
 | .agg ⟨vs⟩=>(vd vs).map .agg
 | .tuple ⟨[]⟩=>some .undef
 | _=>none
def vd:List Value->Option (List V)
 |[]=>some []
 |v::r=>match j1 v with
  |some v'=>if p5 v' then none else(vd r).map (v':: ·)
  |none=>none
end
def c7{α β:Type}(f:α->Option β):List α->Option (List β)
 |[]=>some []
 |a::r=>match f a with
  |some b=>match c7 f r with
   |some aB=>some (b::aB)
   |none=>none
  |none=>none
structure Ctx where
 P:Program
 Ae:Nat->Option Nat
 gQ:String->Bool:=fun _=>true
 I4:String->Bool:=fun _=>false
 raw:Nat->Bool:=fun _=>false
 ej:Nat->Option Obj:=fun _=>none
 ve:List Nat:=[]
 Af:Option Nat:=none
 vf:Nat:=0
 Ul:String->Bool:=fun _=>false
namespace Ctx
variable (C:Ctx)
def sizeOf (t:Nat):Option Nat:=(C.P.info? t).map (·.size)
def zeroCells (t:Nat):Option (List V):=match C.P.info? t with
 |some i=>match i.zero with
  |some z=>match vd z.cells.toList with
   |some vs=>if b7 vs then some vs else none
   |none=>none
  |none=>none
 |none=>none
def mark (t:Nat):List V->List V
 |[.gy,.ak]=>bif C.Af==some t then[.undef,.ak]else[.gy,.ak]
 |z=>z
def zeroV (t:Nat):Option V:=match C.P.info? t with
 |some i=>match i.zero with
  |some z=>j1 z
  |none=>none
 |none=>none
def shapeOf (t:Nat):Option (Option Nat):=match C.P.underlying t with
 |some (.struct _)|some (.array _ _)=>(C.sizeOf t).map some
 |some _=>some none
 |none=>none
def bF (vars:List Nat):Operand->Option ah
 | .tmp t=>some (if vars.contains t then .var t else .tmp t)
 | .const v=>(j1 v).map .const
 | .func f=>(C.Ae f).map .func
 | .global _=>none
def lX (vars:List Nat):Option Operand->Option (Option ah)
 |none=>some none
 |some x=>(C.bF vars x).map some
def iQ (t:Nat):Option Nat:=match C.P.underlying t with
 |some (.int _)=>some 0
 |some .string=>some 1
 |some .bool=>some 2
 | _=>none
def xx (i:Nat):List Field->Option (List Nat)
 |[]=>some []
 |f::fs=>match C.iQ f.type with
  |some k=>if f.name != "_" &&f.offset==i then(xx (i+1) fs).map (k:: ·)else none
  |none=>none
def vg (i:Nat):List Field->Option (List Nat)
 |[]=>some []
 |f::fs=>match C.iQ f.type with
  |some k=>if f.name != "_" &&f.offset==i then(vg (i+1) fs).map (k:: ·)else none
  |none=>match C.P.underlying f.type with
   |some (.struct gs)=>match C.xx 0 gs.toList with
    |some dN=>if f.name != "_" &&f.offset==i&&!C.P.stoodInHeld f.type&&C.sizeOf f.type==some dN.length then(vg (i+dN.length) fs).map (dN++ ·)else none
    |none=>none
   | _=>none
def structEq (t:Nat):Option (List Nat):=match C.P.underlying t with
 |some (.struct fs)=>if !C.P.stoodInHeld t&&!C.P.eqGuardType C.P.depth t then C.vg 0 fs.toList else none
 | _=>none
def Ag:ah->Bool
 | .const .gP=>true
 | _=>false
def sX (d:TypeDesc)(x y:ah)(plain:b8)(neg:Bool):Option b8:=
 match d with
 | .int _| .string=>some plain
 | .pointer _=>some (.mY 0 neg x y)
 | .slice _=>some (.mY 1 neg x y)
 | .func .. =>some (.mY 2 neg x y)
 | .interface _=>if Ag y then some (.mY 3 neg x y)else none
 | .bool=>some (.mY 4 neg x y)
 | _=>none
def builtin (vars:List Nat)(pos:String)(b:Builtin)(args:Array Operand)(bc:Array TypeId):Option b8:=
 match b,args.toList,bc.toList with
 | .len,[x],[t]=>match C.P.underlying t with
   |some .string=>(C.bF vars x).map (.len 0)
   |some (.slice _)=>(C.bF vars x).map (.len 1)
   |some (.map _ _)=>(C.bF vars x).map (.len 2)
   | _=>none
 | .append,[a,b],[t,u]=>match C.P.underlying t,C.P.underlying u with
   |some (.slice e),some (.slice _)=>match C.P.info? e,C.bF vars a,C.bF vars b with
    |some i,some a,some b=>if i.size=0||i.zero.map (·.cells.size) != some i.size then none else some (if C.I4 pos then .rh i.size i.bytes a b else .append i.size i.bytes a b)
    | _,_,_=>none
   |some (.slice e),some .string=>match C.P.info? e,C.bF vars a,C.bF vars b with
    |some i,some a,some b=>if i.size=1&&i.bytes==1&&i.zero.map (·.cells.size)==some 1 then some (if C.Ul pos&&e==C.vf then .xt a b else .xr a b)else none
    | _,_,_=>none
   | _,_=>none
 | .delete,[m,k],[t,_]=>match C.P.underlying t,C.bF vars m,C.bF vars k with
   |some (.map ek _),some m,some k=>(C.iQ ek).map fun bI=>.xq bI m k
   | _,_,_=>none
 | .recover,[],_=>none
 | .max,[a,b],_=>match C.bF vars a,C.bF vars b with
   |some a,some b=>some (.p3 true a b)
   | _,_=>none
 | .copy,[a,b],[t,u]=>match C.P.underlying t,C.P.underlying u with
   |some (.slice e),some (.slice _)=>match C.sizeOf e,C.bF vars a,C.bF vars b with
    |some n,some a,some b=>if n=0 then none else some (.copy n a b)
    | _,_,_=>none
   | _,_=>none
 | .min,[a,b],_=>match C.bF vars a,C.bF vars b with
   |some a,some b=>some (.p3 false a b)
   | _,_=>none
 | _,_,_=>none
def ca (vars:List Nat)(pos:String):Op->Option b8
 | .move x| .assign x=>(C.bF vars x).map .mv
 | .pick c a b=>match C.bF vars c,C.bF vars a,C.bF vars b with
   |some c,some a,some b=>some (.pick c a b)
   | _,_,_=>none
 | .alloc t=>(C.zeroCells t).map fun z=>.alloc (C.mark t z)
 | .box _ x=>(C.bF vars x).map .box
 | .build t parts=>match C.P.underlying t,C.zeroCells t with
   |some (.struct fs),some z=>if fs.toList.any (fun f=>(C.sizeOf f.type).isNone)then none else(c7 (fun(p:Nat × Operand)=>match fs[p.1]? with
     |some f=>match C.sizeOf f.type,C.bF vars p.2 with
      |some n,some x=>some (f.offset,n,x)
      | _,_=>none
     |none=>none) parts.toList).map (.build z)
   |some (.array _ e),some z=>match C.sizeOf e with
    |some n=>(c7 (fun(p:Nat × Operand)=>match C.bF vars p.2 with
      |some x=>some (p.1*n,n,x)
      |none=>none) parts.toList).map (.build z)
    |none=>none
   | _,_=>none
 | .buildSlice t len parts=>match C.P.underlying t with
   |some (.slice e)=>match C.sizeOf e,C.zeroCells e,c7 (fun(p:Nat × Operand)=>(C.bF vars p.2).map fun x=>(p.1,x)) parts.toList with
    |some n,some z,some ps=>if n=0\/len*n>2^24\/z.length≠n then none else some (.lit n z len ps (match C.P.underlying e with|some (.func ..)=>false| _=>C.gQ pos))
    | _,_,_=>none
   | _=>none
 | .load t a=>match C.shapeOf t,C.bF vars a with
   |some sh,some a=>some (.load sh a)
   | _,_=>none
 | .store t a x=>match C.sizeOf t,C.bF vars a,C.bF vars x with
   |some n,some a,some x=>some (.store n a x)
   | _,_,_=>none
 | .nilCheck x=>(C.bF vars x).map .nilCheck
 | .binOp o t x y _=>match C.bF vars x,C.bF vars y with
   |some x,some y=>match o,C.P.underlying t with
    | .eql,some (.struct _)=>(C.structEq t).map fun n=>.sQ false n x y
    | .neq,some (.struct _)=>(C.structEq t).map fun n=>.sQ true n x y
    | .eql,some d=>sX d x y (.bin .eql x y) false
    | .neq,some d=>sX d x y (.bin .neq x y) true
    | .eql,none| .neq,none=>none
    | _,_=>some (.bin o x y)
   | _,_=>none
 | .unOp o _ x=>(C.bF vars x).map (.un o)
 | .convert s d x=>match C.P.underlying s,C.P.underlying d,C.bF vars x with
   |some (.int _),some (.int k),some x=>some (.conv k x)
   |some (.slice e),some .string,some x=>match C.P.underlying e with
    |some (.int .u8)=>some (.p2 x)
    | _=>none
   | _,_,_=>none
 | .makeInterface t x=>match C.P.underlying t,C.bF vars x with
   |some (.interface _),_=>none
   |some _,some x=>some (.z7 t x)
   | _,_=>none
 | .makeFunc (.func f) a b=>match C.Ae f,c7 (C.bF vars) a.toList,c7 (C.bF vars) b.toList with
   |some i,some a,some b=>some (.sR i a b)
   | _,_,_=>none
 | .makeMap _ none=>some .mkMap
 | .makeSlice t l c=>match C.P.underlying t with
   |some (.slice e)=>match C.P.info? e,C.zeroCells e,C.bF vars l,C.bF vars c with
    |some i,some z,some l,some c=>if i.size=0\/z.length≠i.size then none else some (.mkSlice i.size z i.bytes l c)
    | _,_,_,_=>none
   | _=>none
 | .slice t x cS hi mx=>match C.P.underlying t,C.bF vars x,C.lX vars cS,C.lX vars hi,C.lX vars mx with
   |some .string,some x,some cS,some hi,some none=>some (.rf x cS hi)
   |some (.slice e),some x,some cS,some hi,some mx=>match C.sizeOf e with
    |some n=>if n=0||(hi.isNone&&mx.isSome)then none else some (.pZ n x cS hi mx)
    |none=>none
   | _,_,_,_,_=>none
 | .fieldAddr s x f=>match C.P.underlying s,C.bF vars x with
   |some (.struct fs),some x=>match fs[f]? with
    |some aO=>match C.sizeOf aO.type with
     |some n=>if n=0 then none else some (.fieldAddr aO.offset x)
     |none=>none
    |none=>none
   | _,_=>none
 | .field s x f=>match C.P.underlying s,C.bF vars x with
   |some (.struct fs),some x=>match fs[f]? with
    |some aO=>(C.shapeOf aO.type).map fun sh=>.field aO.offset sh x
    |none=>none
   | _,_=>none
 | .indexAddr t x i=>match C.P.underlying t,C.bF vars x,C.bF vars i with
   |some (.slice e),some x,some i=>match C.sizeOf e with
    |some n=>if n=0 then none else some (.indexAddr n x i)
    |none=>none
   | _,_,_=>none
 | .index t x i=>match C.P.underlying t,C.bF vars x,C.bF vars i with
   |some .string,some x,some i=>some (.sS x i)
   | _,_,_=>none
 | .lookup t x i ok=>match C.P.underlying t,C.bF vars x,C.bF vars i with
   |some (.map k e),some x,some i=>match C.iQ k,C.zeroV e with
    |some bI,some z=>if p5 z then none else some (.lookup bI z x i ok)
    | _,_=>none
   | _,_,_=>none
 | .mapUpdate t m k v=>match C.P.underlying t,C.bF vars m,C.bF vars k,C.bF vars v with
   |some (.map ek _),some m,some k,some v=>(C.iQ ek).map fun bI=>.mZ bI m k v
   | _,_,_,_=>none
 | .insert t m k v=>match C.P.underlying t,C.bF vars m,C.bF vars k,C.bF vars v with
   |some (.map ek _),some m,some k,some v=>(C.iQ ek).map fun bI=>.mZ bI m k v
   | _,_,_,_=>none
 | .extract x i=>(C.bF vars x).map fun x=>.extract x i
 | .call {callee:=.value f,args,.. }=>match C.bF vars f,c7 (C.bF vars) args.toList with
   |some f,some aC=>some (.call (match f with| .func i=>C.raw i| _=>false) f aC)
   | _,_=>none
 | .call {callee:=.builtin b,args,argTypes}=>C.builtin vars pos b args argTypes
 | _=>none
def op (vars:List Nat)(pos:String)(o:Op):b8:=(C.ca vars pos o).getD .fail
def guard (vars:List Nat)(ops:Array Oper):Option (Nat × Bool)->Option (Option (ah × Bool))
 |none=>some none
 |some (j,want)=>match(ops[j]?).bind (·.dst)with
  |some d=>some (some (if vars.contains d then .var d else .tmp d,want))
  |none=>none
def oper (vars:List Nat)(n:Nat)(ops:Array Oper)(o:Oper):Option bl:=
 match guard vars ops o.guard with
 |some g=>match o.dst with
  |none=>some {dst:=none,op:=C.op vars o.pos o.op,guard:=g}
  |some d=>if d<n then some {dst:=some (d,vars.contains d),op:=C.op vars o.pos o.op,guard:=g}else none
 |none=>none
def sY (ops:Array Oper):Bool:=
 ops.toList.zipIdx.all fun(o,i)=>o.after.all fun e=>match e.ground with| .gcOnly _=>true| _=>decide (e.on<i)
def tmpsOf (xs:Array Operand):List Nat:=xs.toList.filterMap fun| .tmp t=>some t| _=>none
def eC (ops:Array Oper)(o:Oper):List Nat:=
 tmpsOf o.op.operands++(match o.guard with|some (j,_)=>((ops[j]?).bind (·.dst)).toList|none=>[])
def sZ (ops:Array Oper):Bool:=
 let b:=CheckFast.beforeF ops
 ops.toList.zipIdx.all fun(o,j)=>ops.toList.zipIdx.all fun(p,i)=>
  match p.dst with
  |none=>true
  |some d=>i==j||!(o.dst==some d||(eC ops o).contains d)||(b.getD (max i j) 0).testBit (min i j)
def rp (ops:Array Oper)(o:Oper)(a:bl):Bool:=
 a.op.operands.all fun
   | .tmp t| .var t=>(eC ops o).contains t
   | _=>true
def Dk (vars:List Nat)(n:Nat)(ops:Array Oper):Option bP:=match C.ve,ops.toList.getLast? with
 |[],_=>none
 | _,some gG=>match gG.op,gG.guard with
   | .defer {callee:=.value f,args,.. },none=>match args.toList,c7 (C.oper vars n ops) ops.toList.dropLast,C.bF vars f with
     |[],some bj,some j2=>if gG.dst.isNone then some (.sT bj C.ve j2)else none
     | _,_,_=>none
   | _,_=>none
 | _,none=>none
def code (vars:List Nat)(n:Nat):Code->Option bP
 | .skip=>some .skip
 | .region _ ops draw=>match(if draw then none else C.Dk vars n ops)with
   |some r=>some r
   |none=>match c7 (C.oper vars n ops) ops.toList with
    |some bj=>if !draw then some (.region bj none)
    else if sY ops&&sZ ops&&(ops.toList.zip bj).all (fun(o,a)=>rp ops o a)then some (.region bj (some (CheckFast.beforeF ops).toList))else none
    |none=>none
 | .seq a b=>match code vars n a,code vars n b with
   |some a,some b=>some (.seq a b)
   | _,_=>none
 | .cond c t e=>match C.bF vars c,code vars n t,code vars n e with
   |some c,some t,some e=>some (.cond c t e)
   | _,_,_=>none
 | .block id c=>(code vars n c).map (.block id)
 | .loop c=>(code vars n c).map .loop
 | .rangeFunc f ps a b=>match C.bF vars f,code vars n a,code vars n b with
   |some f,some a,some b=>if ps.all (fun t=>decide (t<n)&&vars.contains t)then some (.rangeFunc f ps.toList a b)else none
   | _,_,_=>none
 | .exit id=>some (.exit id)
 | .ret=>some .ret
 | _=>some .fail
def rq:Code->List Nat
 | .region _ ops _=>(ops.toList.foldl (fun(acc:List Nat × List Nat) o=>
  let g:=match o.guard with|some (j,_)=>((ops[j]?).bind (·.dst)).toList|none=>[]
  let reads:=(g++tmpsOf o.op.operands).filter fun t=>!acc.2.contains t
  (acc.1++reads,o.dst.toList++acc.2)) ([],[])).1
 | .seq a b=>rq a++rq b
 | .cond c t e=>tmpsOf #[c]++rq t++rq e
 | .block _ c| .loop c=>rq c
 | .rangeFunc f ps a b=>tmpsOf #[f]++ps.toList++rq a++rq b
 | _=>[]
def res:ResultVar->Option ki
 | .tmp t=>some (.tmp t)
 | .cell a t=>(C.shapeOf t).map (.cell a)
def ng:List ResultVar->List Nat
 |[]=>[]
 | .tmp t::r=>t::ng r
 | .cell a _::r=>a::ng r
def varsOf (f:Func):List Nat:=
 ((List.range (f.params.size+f.nfree)++ng f.results.toList++(match f.body with|some c=>rq c|none=>[])).eraseDups)
def func (f:Func)(fresh:Bool):Option gR:=
 match f.body with
 |some c=>match C.code (varsOf f) f.ntmps c,c7 C.res f.results.toList with
  |some b,some rs=>if f.name== "runtime.NumGoroutine" then none else some {sU:=f.ntmps,body:=b,results:=rs,fresh}
  | _,_=>none
 |none=>none
end Ctx
end Go.Abs
