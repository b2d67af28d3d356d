/- Texts of this claim, joined and written short by a program. -/
import Derived.Calls
import Derived.CheckFast
set_option linter.unusedVariables false
set_option linter.unusedSimpArgs false
set_option linter.unusedSectionVars false
namespace Go.Abs
set_option linter.defProp false
def aD := @Option.some.injEq
def aS := @Option.bind_some
def cD := @Option.map_eq_some_iff
def aN := @Nat.le_refl
def bH := @Prod.mk.injEq
def cm := @Bool.and_eq_true
def dW := @Option.bind_eq_some_iff
def eY := @List.getElem?_eq_some_iff
def eU := @Nat.eq_of_beq_eq_true
def fY := @List.getElem?_append_left
def eZ := @List.mem_of_getElem?
def c4 := @Nat.le_trans
def cN := @Nat.zero_le
def eE := @List.all_eq_true
def ei := @List.prefix_rfl
def dy := @Bool.true_and
def jC := @List.mem_zipIdx_iff_getElem?
def dG := @List.mem_cons
def fV := @Bool.false_eq_true
def dX := @List.map_cons
def jD := @List.getElem?_eq_getElem
def gY := @Array.length_toList
def iG := @Array.getElem?_toList
def eo := @Nat.zero_add
def e5 := @List.cons.inj
def eA := @List.mem_map
def hO := @List.length_append
def hP := @List.prefix_append
def j1 := @Nat.le_of_ble_eq_true
def jE := @List.getElem?_set_ne
def nq := @List.getD_eq_getElem?_getD
def gR := @List.length_map
def iH := @List.getElem?_map
def fZ := @Bool.not_true
def lf := @List.mem_cons_of_mem
def iI := @List.length_cons
def nO := @List.getElem?_cons_zero
def oz := @Nat.exists_eq_add_of_le
def qo := @List.drop_eq_getElem_cons
def gD := @Nat.lt_or_ge
def kR := @List.append_assoc
def nP := @List.getElem?_eq_none
def oA := @List.getElem?_set_self
def px := @List.all_eq_not_any_not
def j2 := @Bool.or_eq_true
def j3 := @Nat.min_le_left
def j4 := @List.nil_append
def lH := @List.flatMap_cons
def kq := @List.mem_append
def py := @List.mem_iff_getElem?
def kS := @List.map_append
def qp := @List.mem_append_right
def l4 := @List.cons_append
def uI := @Array.getElem?_eq_some_iff
def vH := @List.getElem?_append_right
def oB := @Bool.not_eq_true'
def jF := @List.map_nil
def q6 := @List.map_congr_left
def xL := @Array.getD_eq_getD_getElem?
def qq := @List.mem_cons_self
def oC := @Nat.min_le_right
def tg := @List.getElem?_toArray
def uJ := @List.drop_eq_nil_of_le
def sd := @List.mem_map_of_mem
def oD := @List.length_nil
def uK := @List.contains_iff_mem
def se := @Nat.lt_of_lt_of_le
def q7 := @List.ext_getElem?
def qs := @List.length_drop
def pz := @Nat.min_eq_left
def vI := @List.length_replicate
def q8 := @Nat.le_max_right
def q9 := @List.length_take
def qt := @List.append_nil
def pA := @Bool.not_false
def sf := @Nat.min_eq_right
def zp := @List.length_eq_zero_iff
def ra := @Option.some.inj
def Ch := @List.getElem?_zip_eq_some
def xM := @List.mem_append_left
def th := @List.not_mem_nil
def sg := @Nat.le_max_left
def si := @Option.map_some
def ti := @List.foldl_cons
def uL := @List.any_eq_true
def uM := @List.range'_succ
def vJ := @List.size_toArray
def Et := @List.sublist_append_right
def pB := @Nat.le_of_lt
def pC := @List.map_map
def rb := @Nat.add_assoc
def sj := @Bool.and_true
def Eu := @Int.eq_ofNat_of_zero_le
def Ev := @List.getElem?_cons_succ
def xN := @List.take_add_one
def re := @Nat.ne_of_lt
def uN := @List.drop_drop
def xO := @Option.getD_some
def tj := @Bool.false_or
def zq := @Int.toNat_natCast
def zr := @Array.size_append
def zs := @List.nodup_append
def xP := @List.cons.injEq
def xQ := @List.nodup_cons
def Ew := @List.mem_of_mem_take
def zt := @Nat.lt_succ_self
def I2 := @Array.getElem?_eq_none
def Ex := @List.replicate_succ
def Vk := @Array.getElem?_setIfInBounds_ne
def zu := @List.length_set
def zv := @Option.map_none
def uO := @Nat.min_self
def Ey := @List.zip_cons_cons
def Ci := @List.take_length
def I3 := @List.mem_of_mem_drop
def I4 := @List.set_append_left
def I5 := @List.range_eq_range'
def xR := @Bool.and_self
def I6 := @List.take_succ_cons
def Nt := @List.take_of_length_le
def Nu := @List.drop_of_length_le
def lI := @Ne.symm
def Ez := @List.map_toArray
def Nv := @List.take_append_drop
def I7 := @List.getElem?_take
def Nw := @Array.getElem?_modify
def I8 := @List.mem_singleton
def I9 := @Nat.add_right_comm
def Ja := @List.pairwise_cons
def Cj := @Bool.and_assoc
def vK := @Nat.add_mul
def Vl := @List.pairwise_iff_getElem
def Nx := @Nat.mul_le_mul_right
def Ny := @Bool.or_eq_false_iff
def ahC := @Array.toList_eraseIdxIfInBounds
def EA := @Bool.eq_iff_iff
def Jb := @List.Sublist.refl
def Jc := @List.flatten_cons
def zw := @Nat.add_zero
def zx := @Bool.or_self
def ahD := @Array.eq_empty_of_size_eq_zero
def Ck := @List.all_cons
def Nz := @List.toList_toArray
def NA := @List.getElem?_range
def NB := @List.flatMap_append
def NC := @List.length_pos_iff
def ND := @List.length_reverse
def NF := @List.filterMap_cons
def Jd := @List.mem_flatMap
def Je := @Nat.max_eq_right
def Jf := @List.getElem_map
def Jg := @List.getElem_mem
def EB := @Bool.false_and
def NG := @List.set_cons_zero
def NH := @Nat.pos_of_ne_zero
def Jh := @Nat.max_eq_left
def Cl := @Nat.beq_refl
def zy := @Int.le_refl
def NI := @Nat.lt_succ_of_lt
def NJ := @Bool.not_eq_false
def ahE := @Array.getElem?_append_left
def Vm := @List.replicate_succ'
def Vn := @List.pairwise_append
def Ji := @List.nodup_nil
def ahF := @Array.filter_eq_empty_iff
def Jj := @List.mem_range
def Jk := @Int.mul_le_mul
def NK := @Nat.le_add_right
def NL := @List.drop_append
def NM := @List.isEmpty_nil
def Vo := @List.drop_succ_cons
def EC := @Nat.succ_mul
def Vp := @List.getElem?_drop
def Vq := @List.set_cons_succ
def Vr := @Array.foldl_toList
def Vs := @Nat.eq_zero_or_pos
def ahG := @List.eraseIdx_cons_zero
def ahH := @List.eraseIdx_cons_succ
def Vt := @List.mem_filterMap
def NN := @List.find?_cons
def Vu := @List.findIdx?_cons
def ahI := @Array.contains_iff_mem
def ED := @Nat.le_succ
def Vv := @Array.toList_push
def Vw := @List.length_range
def NP := @List.foldl_nil
def NQ := @Bool.or_false
def EE := @Go.Calls.mono
inductive V where
 |bool (b:Bool)
 |int (k:IntKind) (n:Int)
 |str (s:List UInt8)
 |cu
 |emp
 |list (es:Nat) (ds:List V)
 |agg (vs:List V)
 |aF (vs:List V)
 |jj
 |ptr (l o:Nat)
 |hz (l es i f tag:Nat)
 |dz (vs:List V) (f:Nat)
 |cB (l es off len tag:Nat)
 |jk
 |map (l:Nat)
 |kr
 |fn (i:Nat) (first caps:List V)
 |yield (l:Nat)
 |j5
 |iface (t:Nat) (v:V)
 |undef
 deriving Inhabited
inductive ai where
 |tmp (t:Nat)
 |var (t:Nat)
 |const (v:V)
 |func (i:Nat)
 deriving Inhabited
inductive cX where
 |mv (x:ai)
 |pick (c a b:ai)
 |alloc (z:List V)
 |box (x:ai)
 |build (z:List V) (parts:List (Nat × Nat × ai))
 |lit (es:Nat) (z:List V) (len:Nat) (parts:List (Nat × ai)) (jG:Bool)
 |load (sh:Option Nat) (x:ai)
 |store (n:Nat) (a x:ai)
 |nilCheck (x:ai)
 |bin (op:BinOp) (x y:ai)
 |zz (neg:Bool) (ks:List Nat) (x y:ai)
 |sk (kind:Nat) (neg:Bool) (x y:ai)
 |un (op:UnOp) (x:ai)
 |conv (k:IntKind) (x:ai)
 |Cm (t:Nat) (x:ai)
 |tk (i:Nat) (first caps:List ai)
 |mkMap
 |mkSlice (es:Nat) (z:List V) (bytes:Nat) (l c:ai)
 |rf (x:ai) (lo hi:Option ai)
 |tl (es:Nat) (x:ai) (lo hi mx:Option ai)
 |fieldAddr (off:Nat) (x:ai)
 |field (off:Nat) (sh:Option Nat) (x:ai)
 |indexAddr (es:Nat) (x i:ai)
 |sn (x i:ai)
 |lookup (kind:Nat) (z:V) (x i:ai) (ok:Bool)
 |qu (kind:Nat) (m k v:ai)
 |zA (kind:Nat) (m k:ai)
 |EF (a b:ai)
 |EG (a b:ai)
 |vL (x:ai)
 |extract (x:ai) (i:Nat)
 |len (kind:Nat) (x:ai)
 |append (es bytes:Nat) (a b:ai)
 |xS (es bytes:Nat) (a b:ai)
 |vM (mx:Bool) (x y:ai)
 |copy (es:Nat) (a b:ai)
 |call (raw:Bool) (f:ai) (args:List ai)
 |fail
 deriving Inhabited
structure bU where
 dst:Option (Nat × Bool)
 op:cX
 guard:Option (ai × Bool)
 deriving Inhabited
inductive cF where
 |skip
 |region (ops:List bU) (ej:Option (List Nat))
 |zB (ops:List bU) (ok:List Nat) (f:ai)
 |seq (a b:cF)
 |cond (c:ai) (t e:cF)
 |block (id:Nat) (body:cF)
 |loop (body:cF)
 |rangeFunc (f:ai) (params:List Nat) (assign body:cF)
 |exit (id:Nat)
 |ret
 |fail
 deriving Inhabited
inductive nr where
 |tmp (t:Nat)
 |cell (a:Nat) (sh:Option Nat)
 deriving Inhabited
structure ix where
 xT:Nat
 body:cF
 results:List nr
 fresh:Bool
 deriving Inhabited
abbrev Env:=List (Nat × V)
inductive X where
 |normal
 |exit (id:Nat)
 |ret
 deriving DecidableEq,Inhabited
inductive cf where
 |cells (vs:List V)
 |row (es:Nat) (ds:List V) (fz:Bool)
 |map (bz:List (V × V))
 |loop (st:LoopState) (uP:X) (env:Env) (params:List Nat) (assign body:cF)
 |rh (s:List UInt8)
 |dead (n:Nat)
 |gone
 deriving Inhabited
abbrev Heap:=List cf
structure aw where
 aM:Env
 ay:Env
 H:Heap
 low:Nat
 ro:Option Nat:=none
 deriving Inhabited
def aI:V->List V
 | .agg vs=>vs
 |v=>[v]
mutual
def bx:V->Bool
 | .bool _| .int _ _| .str _| .cu| .emp| .list _ _| .jj| .jk| .kr| .j5=>true
 | .agg vs| .aF vs=>cj vs
 | .iface _ v=>bx v
 | .fn _ a b=>cj a&&cj b
 | _=>false
def cj:List V->Bool
 |[]=>true
 |v::r=>bx v&&cj r
end
mutual
def flat:V->Bool
 | .bool _| .int _ _| .str _| .cu| .emp| .jj| .jk| .kr| .j5=>true
 | .agg vs| .aF vs=>vN vs
 | _=>false
def vN:List V->Bool
 |[]=>true
 |v::r=>flat v&&vN r
end
mutual
def old (n:Nat):V->Bool
 | .ptr l _| .hz l _ _ _ _| .cB l _ _ _ _| .map l| .yield l=>decide (l<n)
 | .agg vs| .aF vs=>olds n vs
 | .fn _ a b=>olds n a&&olds n b
 | .iface _ v=>old n v
 | .undef=>false
 | _=>true
def olds (n:Nat):List V->Bool
 |[]=>true
 |v::r=>old n v&&olds n r
end
def vO:V->Bool
 | .undef=>true
 | _=>false
def iV (cs:List V)(o:Nat):Option Nat->Option V
 |none=>cs[o]?
 |some n=>if o+n<=cs.length then some (.agg ((cs.drop o).take n))else none
def setCells (cs:List V)(o:Nat):List V->List V
 |[]=>cs
 |x::xs=>setCells (cs.set o x) (o+1) xs
def bZ:Env->Nat->V
 |[],_=>.undef
 |(k,v)::r,t=>if k=t then v else bZ r t
def ga:Env->Nat->V->Env
 |[],t,v=>[(t,v)]
 |(k,u)::r,t,v=>if k=t then(k,v)::r else(k,u)::ga r t v
def ai.ah (aM ay:Env):ai->V
 | .tmp t=>bZ aM t
 | .var t=>bZ ay t
 | .const v=>v
 | .func i=>.fn i [] []
def kt (H:Heap)(sh:Option Nat):V->Option V
 | .ptr l o=>match H[l]? with
   |some (.cells vs)=>iV vs o sh
   | _=>none
 | .hz l es i f tag=>match H[l]? with
   |some (.row bV ds _)=>if bV=es/\ds.length=tag then(ds[i]?).bind fun d=>iV (aI d) f sh else none
   | _=>none
 | .dz vs f=>iV vs f sh
 | _=>none
def xU (d:V)(f:Nat)(xs:List V):Option V:=
 match d with
 | .agg vs=>if f+xs.length<=vs.length then some (.agg (setCells vs f xs))else none
 | _=>match f,xs with
   |0,[x]=>some x
   | _,_=>none
def dY:V->Bool
 | .agg _| .aF _| .undef=>false
 | _=>true
def bM:List V->Bool
 |[]=>true
 |v::r=>dY v&&bM r
def plainCell:V->Bool
 | .agg _| .aF _| .undef| .dz .. | .hz .. =>false
 | _=>true
def mz:List V->Bool
 |[]=>true
 |v::r=>plainCell v&&mz r
def j6 (H:Heap)(n:Nat)(a v:V):Option (Heap × Nat):=
 match a with
 | .ptr l o=>match H[l]? with
   |some (.cells vs)=>if(aI v).length=n/\o+n<=vs.length/\bM (aI v)=true then some (H.set l (.cells (setCells vs o (aI v))),l)else none
   | _=>none
 | .hz l es i f tag=>match H[l]? with
   |some (.row bV ds false)=>
    if bV=es/\ds.length=tag/\(aI v).length=n/\mz (aI v)=true then
     match ds[i]? with
     |some d=>match xU d f (aI v)with
      |some d'=>some (H.set l (.row es (ds.set i d') false),l)
      |none=>none
     |none=>none
    else none
   | _=>none
 | _=>none
def lg (f:Heap->Nat->V->Option (V × Heap × Nat))(H:Heap)(low:Nat):List V->Option (List V × Heap × Nat)
 |[]=>some ([],H,low)
 |v::r=>match f H low v with
  |some (v',H1,bL)=>match lg f H1 bL r with
   |some (lh,H2,dL)=>some (v'::lh,H2,dL)
   |none=>none
  |none=>none
def ec:Nat->Heap->Nat->V->Option (V × Heap × Nat)
 |0,H,low,v=>if bx v then some (v,H,low)else none
 |n+1,H,low,v=>
  if bx v then some (v,H,low)else
  match v with
  | .agg vs=>match lg (ec n) H low vs with
    |some (vs',H',low')=>some (.agg vs',H',low')
    |none=>none
  | .aF vs=>match lg (ec n) H low vs with
    |some (vs',H',low')=>some (.aF vs',H',low')
    |none=>none
  | .cB l es off len tag=>match H[l]? with
    |some (.row bV ds fz)=>
     if bV=es/\ds.length=tag/\off+len<=ds.length then
      if cj ds=true then some (.list es ((ds.drop off).take len),if fz then H else H.set l (.row es ds true),if fz then low else min low l)
      else match lg (ec n) H low ds with
       |some (ds',H',low')=>match H'[l]? with
        |some (.row Vx Cn false)=>
         if Vx=es/\Cn.length=tag/\cj ds'=true then some (.list es ((ds'.drop off).take len),H'.set l (.row es ds' true),min low' l)else none
        | _=>none
       |none=>none
     else none
    | _=>none
  |v=>some (v,H,low)
def gl (H:Heap)(low:Nat)(v:V):Option (V × Heap × Nat):=ec 16 H low v
def fb (H:Heap)(low:Nat):List V->Option (List V × Heap × Nat)
 |[]=>some ([],H,low)
 |v::r=>match gl H low v with
  |some (v',H1,bL)=>match fb H1 bL r with
   |some (lh,H2,dL)=>some (v'::lh,H2,dL)
   |none=>none
  |none=>none
def elems (H:Heap)(es:Nat):V->Option (List V)
 | .cu| .emp=>some []
 | .list bV ds=>if bV=es then some ds else none
 | .cB l bV off len tag=>match H[l]? with
   |some (.row fu ds _)=>if bV=es/\fu=es/\ds.length=tag/\off+len<=ds.length then some ((ds.drop off).take len)else none
   | _=>none
 | _=>none
def ri:V->Option Bool
 | .bool b=>some b
 | _=>none
def lj:V->Option Nat
 | .int _ n=>if 0<=n then some n.toNat else none
 | _=>none
def eF (op:BinOp)(x y:V):Option V:=
 match op,x,y with
 | .shl,.int k a,.int _ b=>if 0<=b/\b.toNat<=k.bits then some (.int k (k.wrap (a*2^b.toNat)))else none
 | .shr,.int k a,.int _ b=>if 0<=b/\b.toNat<=k.bits then some (.int k (a/2^b.toNat))else none
 |op,.int k a,.int bJ b=>
  if k≠bJ then none else
  match op with
  | .add=>some (.int k (k.wrap (a+b)))
  | .sub=>some (.int k (k.wrap (a-b)))
  | .mul=>some (.int k (k.wrap (a*b)))
  | .quo=>if b=0 then none else some (.int k (k.wrap (a.tdiv b)))
  | .rem=>if b=0 then none else some (.int k (a.tmod b))
  | .eql=>some (.bool (a==b))
  | .neq=>some (.bool (a != b))
  | .lss=>some (.bool (decide (a<b)))
  | .leq=>some (.bool (decide (a<=b)))
  | .gtr=>some (.bool (decide (a>b)))
  | .geq=>some (.bool (decide (a>=b)))
  | .and=>some (.int k (k.wrap ((BitVec.ofInt k.bits a &&& BitVec.ofInt k.bits b).toNat)))
  | _=>none
 | .add,.str a,.str b=>if a.length+b.length<=2^40 then some (.str (a++b))else none
 | .eql,.str a,.str b=>some (.bool (a==b))
 | .neq,.str a,.str b=>some (.bool (a != b))
 | _,_,_=>none
def rj (kind:Nat)(x y:V):Option Bool:=
 match kind,x,y with
 |0,.jj,.jj=>some true
 |0,.ptr _ _,.jj|0,.jj,.ptr _ _=>some false
 |1,.cu,.cu=>some true
 |1,.emp,.cu|1,.list _ _,.cu|1,.cB _ _ _ _ _,.cu=>some false
 |2,.kr,.kr=>some true
 |2,.fn _ _ _,.kr=>some false
 |3,.j5,.j5=>some true
 |3,.iface _ _,.j5=>some false
 |4,.bool a,.bool b=>some (a==b)
 | _,_,_=>none
def rk (op:UnOp)(x:V):Option V:=
 match op,x with
 | .neg,.int k n=>some (.int k (k.wrap (0-n)))
 | .not,.bool b=>some (.bool !b)
 | _,_=>none
def jl:Nat->V->V->Option Bool
 |0,.int k a,.int bJ b=>if k=bJ then some (a==b)else none
 |1,.str a,.str b=>some (a==b)
 |2,.bool a,.bool b=>some (a==b)
 | _,_,_=>none
def kT:List Nat->List V->List V->Option Bool
 |[],[],[]=>some true
 |k::ks,a::x,b::y=>match jl k a b with
  |some e=>match kT ks x y with
   |some e'=>some (e&&e')
   |none=>none
  |none=>none
 | _,_,_=>none
def iJ (kind:Nat)(k:V):List (V × V)->Option (Option V)
 |[]=>some none
 |(bJ,v)::r=>match jl kind k bJ with
  |some true=>some (some v)
  |some false=>iJ kind k r
  |none=>none
def l5 (kind:Nat)(k v:V):List (V × V)->List (V × V)
 |[]=>[(k,v)]
 |(bJ,u)::r=>if jl kind k bJ=some true then(k,v)::r else(bJ,u)::l5 kind k v r
def jm (kind:Nat)(k:V):List (V × V)->List (V × V)
 |[]=>[]
 |(bJ,u)::r=>if jl kind k bJ=some true then r else(bJ,u)::jm kind k r
def bytesOf:List V->Option (List UInt8)
 |[]=>some []
 | .int .u8 n::r=>(bytesOf r).map (UInt8.ofNat n.toNat:: ·)
 | _=>none
def vP (cs:List V):List (Nat × Nat × V)->Option (List V)
 |[]=>some cs
 |(off,n,v)::r=>if(aI v).length=n/\off+n<=cs.length/\bM (aI v)=true then vP (setCells cs off (aI v)) r else none
def sq (es:Nat)(ds:List V):List (Nat × V)->Option (List V)
 |[]=>some ds
 |(i,v)::r=>if(aI v).length=es/\i<ds.length/\bM (aI v)=true then sq es (ds.set i v) r else none
def mA (z:List V):V:=match z with|[x]=>x| _=>.agg z
def fe (ah:ai->V)(NR:Nat):Option ai->Option Nat
 |none=>some NR
 |some x=>lj (ah x)
def step (ah:ai->V)(H:Heap)(low:Nat):cX->Option (V × Heap × Nat)
 | .mv x=>some (ah x,H,low)
 | .pick c a b=>(ri (ah c)).map fun t=>(if t then ah a else ah b,H,low)
 | .alloc z=>some (.ptr H.length 0,H++[.cells z],low)
 | .box x=>if bM (aI (ah x))then some (.ptr H.length 0,H++[.cells (aI (ah x))],low)else none
 | .build z parts=>(vP z (parts.map fun p=>(p.1,p.2.1,ah p.2.2))).map fun cs=>(.agg cs,H,low)
 | .lit es z len parts jG=>match fb H low (parts.map fun p=>ah p.2)with
   |some (vs,H',low')=>match sq es (List.replicate len (mA z)) ((parts.zip vs).map fun(p,v)=>(p.1,v))with
    |some ds=>
     if jG then(if cj ds then some (if len=0 then .emp else .list es ds,H',low')else none)
     else if len=0 then some (.emp,H',low')else some (.cB H'.length es 0 len len,H'++[.row es ds false],low')
    |none=>none
   |none=>none
 | .load sh x=>(kt H sh (ah x)).map fun v=>(v,H,low)
 | .store n a x=>(j6 H n (ah a) (ah x)).map fun(H',l)=>(.undef,H',min low l)
 | .nilCheck x=>match ah x with
   | .ptr l o=>some (.ptr l o,H,low)
   | .hz l es i f tag=>some (.hz l es i f tag,H,low)
   | .dz vs f=>some (.dz vs f,H,low)
   | .fn i a b=>some (.fn i a b,H,low)
   | _=>none
 | .bin op x y=>(eF op (ah x) (ah y)).map fun v=>(v,H,low)
 | .zz neg ks x y=>match ah x,ah y with
   | .agg a,.agg b=>(kT ks a b).map fun e=>(.bool (if neg then !e else e),H,low)
   | _,_=>none
 | .sk kind neg x y=>(rj kind (ah x) (ah y)).map fun e=>(.bool (if neg then !e else e),H,low)
 | .un op x=>(rk op (ah x)).map fun v=>(v,H,low)
 | .conv k x=>match ah x with
   | .int _ n=>some (.int k (k.wrap n),H,low)
   | _=>none
 | .Cm t x=>match gl H low (ah x)with
   |some (v,H',low')=>some (.iface t v,H',low')
   |none=>none
 | .tk i a b=>some (.fn i (a.map ah) (b.map ah),H,low)
 | .mkMap=>some (.map H.length,H++[.map []],low)
 | .mkSlice es z bytes l c=>match ah l,ah c with
   | .int _ n,.int _ m=>if n=m/\0<=n/\n*(bytes+1)<=2^40 then
     (if n=0 then some (.emp,H,low)else
       some (.cB H.length es 0 n.toNat n.toNat,H++[.row es (List.replicate n.toNat (mA z)) false],low))else none
   | _,_=>none
 | .rf x lo hi=>match ah x with
   | .str s=>match fe ah 0 lo,fe ah s.length hi with
     |some a,some b=>if a<=b/\b<=s.length then some (.str ((s.take b).drop a),H,low)else none
     | _,_=>none
   | _=>none
 | .tl es x lo hi mx=>match ah x with
   | .cu=>match fe ah 0 lo,fe ah 0 hi,fe ah 0 mx with
     |some 0,some 0,some 0=>some (.cu,H,low)
     | _,_,_=>none
   | .emp=>match fe ah 0 lo,fe ah 0 hi,fe ah 0 mx with
     |some 0,some 0,some 0=>some (.emp,H,low)
     | _,_,_=>none
   | .list bV ds=>match fe ah 0 lo,fe ah ds.length hi with
     |some a,some b=>if a<=b/\b<=ds.length/\bV=es then
       match mx with
       |none=>some (.list es ((ds.take b).drop a),H,low)
       |some m=>if lj (ah m)=some 0/\b=0 then some (.emp,H,low)else none
      else none
     | _,_=>none
   | .cB l bV off len tag=>match fe ah 0 lo,fe ah len hi with
     |some a,some b=>if a<=b/\b<=len/\bV=es then
       match mx with
       |none=>match H[l]? with
        |some (.row fu ds _)=>if ds.length=tag/\fu=es then(if a<b then some (.cB l es (off+a) (b-a) tag,H,low)else some (.list es [],H,low))else none
        | _=>none
       |some m=>if lj (ah m)=some 0/\b=0 then some (.emp,H,low)else none
      else none
     | _,_=>none
   | _=>none
 | .fieldAddr off x=>match ah x with
   | .ptr l o=>some (.ptr l (o+off),H,low)
   | .hz l es i f tag=>some (.hz l es i (f+off) tag,H,low)
   | .dz vs f=>some (.dz vs (f+off),H,low)
   | _=>none
 | .field off sh x=>match ah x with
   | .agg vs=>(iV vs off sh).map fun v=>(v,H,low)
   | _=>none
 | .indexAddr es x i=>match lj (ah i)with
   |some i=>match ah x with
    | .list bV ds=>if bV=es then(ds[i]?).map fun d=>(.dz (aI d) 0,H,low)else none
    | .cB l bV off len tag=>match H[l]? with
      |some (.row fu ds _)=>if bV=es/\fu=es/\ds.length=tag/\i<len/\off+len<=ds.length then some (.hz l es (off+i) 0 tag,H,low)else none
      | _=>none
    | _=>none
   |none=>none
 | .sn x i=>match ah x,lj (ah i)with
   | .str s,some i=>(s[i]?).map fun c=>(.int .u8 c.toNat,H,low)
   | _,_=>none
 | .lookup kind z x i ok=>match ah x with
   | .jk=>some (if ok then .aF [z,.bool false]else z,H,low)
   | .map l=>match H[l]? with
     |some (.map bz)=>match iJ kind (ah i) bz with
      |some (some v)=>some (if ok then .aF [v,.bool true]else v,H,low)
      |some none=>some (if ok then .aF [z,.bool false]else z,H,low)
      |none=>none
     | _=>none
   | _=>none
 | .qu kind m k v=>match gl H low (ah v)with
   |some (v',H',low')=>if vO v' then none else match ah m with
    | .map l=>match H'[l]? with
      |some (.map bz)=>match iJ kind (ah k) bz with
       |some _=>some (.undef,H'.set l (.map (l5 kind (ah k) v' bz)),min low' l)
       |none=>none
      | _=>none
    | _=>none
   |none=>none
 | .zA kind m k=>match ah m with
   | .jk=>some (.aF [],H,low)
   | .map l=>match H[l]? with
     |some (.map bz)=>match iJ kind (ah k) bz with
      |some _=>some (.aF [],H.set l (.map (jm kind (ah k) bz)),min low l)
      |none=>none
     | _=>none
   | _=>none
 | .EF a b=>match ah b with
   | .str s=>
     if s.isEmpty then
      match ah a with
      | .cu=>some (.cu,H,low)
      | .emp=>some (.emp,H,low)
      | .cB l bV off len tag=>match H[l]? with
        |some (.row _ ds _)=>if ds.length=tag then some (.cB l bV off len tag,H,low)else none
        | _=>none
      | _=>none
     else
      let xs:List V:=s.map fun c=>.int .u8 c.toNat
      match ah a with
      | .cu=>if xs.length*2<=2^40 then some (.cB H.length 1 0 xs.length xs.length,H++[.row 1 xs false],low)else none
      | .emp=>if xs.length*2<=2^40 then some (.cB H.length 1 0 xs.length xs.length,H++[.row 1 xs false],low)else none
      | .cB l bV off len tag=>match H[l]? with
        |some (.row fu ds false)=>
         if bV=1/\fu=1/\ds.length=tag/\off=0/\len=tag/\(len+xs.length)*2<=2^40 then
          some (.cB l 1 0 (len+xs.length) (len+xs.length),H.set l (.row 1 (ds++xs) false),min low l)
         else none
        | _=>none
      | _=>none
   | _=>none
 | .EG a b=>match ah a,ah b with
   | .cu,.str s=>
     if s.isEmpty then some (.cu,H,low)
     else if s.length*2<=2^40 then some (.cB H.length 1 0 s.length s.length,H++[.rh s],low)else none
   | .cB l es off len tag,.str s=>match H[l]? with
     |some (.rh r)=>if s.isEmpty=false/\es=1/\off=0/\len=tag/\r.length=tag/\(len+s.length)*2<=2^40 then
       some (.cB l 1 0 (len+s.length) (len+s.length),H.set l (.rh (r++s)),min low l)else none
     | _=>none
   | _,_=>none
 | .vL x=>match elems H 1 (ah x)with
   |some ds=>(bytesOf ds).map fun s=>(.str s,H,low)
   |none=>none
 | .extract x i=>match ah x with
   | .aF vs=>(vs[i]?).map fun v=>(v,H,low)
   | _=>none
 | .len kind x=>match kind,ah x with
   |0,.str s=>some (.int .i64 s.length,H,low)
   |1,.cu|1,.emp=>some (.int .i64 0,H,low)
   |1,.list _ ds=>some (.int .i64 ds.length,H,low)
   |1,.cB l es _ len tag=>match H[l]? with
    |some (.row bV ds _)=>if bV=es/\ds.length=tag then some (.int .i64 len,H,low)else none
    |some (.rh r)=>if r.length=tag then some (.int .i64 len,H,low)else none
    | _=>none
   |2,.jk=>some (.int .i64 0,H,low)
   |2,.map l=>match H[l]? with
    |some (.map bz)=>some (.int .i64 bz.length,H,low)
    | _=>none
   | _,_=>none
 | .xS es bytes a b=>match elems H es (ah b)with
   |some xs=>if cj xs=false then none else match ah a with
    | .cu=>if xs.isEmpty then some (.cu,H,low)else if bM (xs.flatMap aI)=true/\xs.length*(bytes+1)<=2^40 then some (.list es xs,H,low)else none
    | .emp=>if xs.isEmpty then some (.emp,H,low)else if bM (xs.flatMap aI)=true/\xs.length*(bytes+1)<=2^40 then some (.list es xs,H,low)else none
    | _=>none
   |none=>none
 | .append es bytes a b=>match elems H es (ah b)with
   |some xs=>match fb H low xs with
    |some (xs,H',low')=>
     if xs.isEmpty then
      match ah a with
      | .cu=>some (.cu,H',low')
      | .emp=>some (.emp,H',low')
      | .list bV ds=>some (.list bV ds,H',low')
      | .cB l bV off len tag=>match H'[l]? with
        |some (.row _ ds _)=>if ds.length=tag then some (.cB l bV off len tag,H',low')else none
        | _=>none
      | _=>none
     else if bM (xs.flatMap aI)=false then none else
     match ah a with
     | .cu=>if xs.length*(bytes+1)<=2^40 then
       some (.cB H'.length es 0 xs.length xs.length,H'++[.row es xs false],low')else none
     | .emp=>if xs.length*(bytes+1)<=2^40 then
       some (.cB H'.length es 0 xs.length xs.length,H'++[.row es xs false],low')else none
     | .cB l bV off len tag=>match H'[l]? with
       |some (.row fu ds false)=>
        if bV=es/\fu=es/\ds.length=tag/\off=0/\len=tag/\(len+xs.length)*(bytes+1)<=2^40 then
         some (.cB l es 0 (len+xs.length) (len+xs.length),H'.set l (.row es (ds++xs) false),min low' l)
        else none
       | _=>none
     | _=>none
    |none=>none
   |none=>none
 | .vM mx x y=>match ah x,ah y with
   | .int k a,.int bJ b=>if k=bJ then some (.int k (if mx then max a b else min a b),H,low)else none
   | _,_=>none
 | .copy es a b=>match ah a,elems H es (ah b)with
   | .cu,some _| .emp,some _=>some (.int .i64 0,H,low)
   | .cB l bV off len tag,some xs=>match H[l]? with
     |some (.row fu ds false)=>
      if bV=es/\fu=es/\ds.length=tag/\off+len<=ds.length/\mz (xs.flatMap aI)=true then
       some (.int .i64 ((min len xs.length:Nat):Int),H.set l (.row es (ds.take off++xs.take len++ds.drop (off+min len xs.length)) false),min low l)
      else none
     | _=>none
   | _,_=>none
 | .call _ _ _=>none
 | .fail=>none
abbrev c5:=V->List V->Heap->Option (V × Heap × Nat)
def gS (aM ay:Env):Option (ai × Bool)->Option Bool
 |none=>some true
 |some (t,b)=>match t.ah aM ay with
  | .bool c=>some (c==b)
  | .aF []=>some false
  | _=>none
def aw.put (st:aw):Option (Nat × Bool)->V->aw
 |none,_=>st
 |some (t,true),v=>{st with ay:=ga st.ay t v}
 |some (t,false),v=>{st with aM:=(t,v)::st.aM}
def ch (call:c5)(ah:ai->V)(H:Heap)(low:Nat):cX->Option (V × Heap × Nat)
 | .call true f args=>match call (ah f) (args.map ah) H with
   |some (v,H',l)=>some (v,H',min low l)
   |none=>none
 | .call false f args=>match fb H low (args.map ah)with
   |some (vs,H',low')=>match call (ah f) vs H' with
    |some (v,Jl,l)=>if flat v=true/\H'.length<=l then some (v,H,low)else some (v,Jl,min low' l)
    |none=>none
   |none=>none
 |op=>step ah H low op
def eG (H H':Heap)(low:Nat):Bool:=decide (low<H.length)||H'.length != H.length
def c8 (call:c5):List bU->aw->List Bool->Option (aw × List Bool)
 |[],st,wr=>some (st,wr.reverse)
 |o::r,st,wr=>
  match gS st.aM st.ay o.guard with
  |some true=>match ch call (ai.ah st.aM st.ay) st.H st.H.length o.op with
   |some (v,H',low')=>c8 call r ({st with H:=H',low:=min st.low low'}.put o.dst v) (eG st.H H' low'::wr)
   |none=>none
  |some false=>c8 call r (st.put o.dst (.aF [])) (false::wr)
  |none=>none
def gE:cX->Bool
 | .mv _| .pick .. | .build .. | .nilCheck _| .bin .. | .zz .. | .sk .. | .un .. | .conv .. | .tk .. | .rf .. | .fieldAddr .. | .field .. | .sn .. | .extract .. | .vM .. =>false
 | _=>true
def cX.operands:cX->List ai
 | .mv x| .box x| .load _ x| .nilCheck x| .un _ x| .conv _ x| .Cm _ x| .fieldAddr _ x| .field _ _ x| .extract x _| .len _ x=>[x]
 | .pick a b c=>[a,b,c]
 | .alloc _| .mkMap| .fail=>[]
 | .build _ parts=>parts.map (·.2.2)
 | .lit _ _ _ parts _=>parts.map (·.2)
 | .store _ a x| .bin _ a x| .zz _ _ a x| .sk _ _ a x| .mkSlice _ _ _ a x| .indexAddr _ a x| .sn a x| .lookup _ _ a x _| .append _ _ a x| .xS _ _ a x| .vM _ a x| .copy _ a x=>[a,x]
 | .tk _ a b=>a++b
 | .rf x lo hi=>x::(lo.toList++hi.toList)
 | .tl _ x lo hi mx=>x::(lo.toList++hi.toList++mx.toList)
 | .qu _ m k v=>[m,k,v]
 | .zA _ m k=>[m,k]
 | .EF a b=>[a,b]
 | .EG a b=>[a,b]
 | .vL x=>[x]
 | .call _ f args=>f::args
def xV (ej:List Nat)(ops:List bU)(wr:List Bool):Bool:=
 if wr.any id then
  (wr.zipIdx).all fun(w,i)=>!w||(ops.zipIdx).all fun(o,j)=>
    !gE o.op||i==j||(if j<i then(ej.getD i 0).testBit j else(ej.getD j 0).testBit i)
 else true
def xW (ops:List bU):Bool:=ops.all fun o=>!gE o.op||match o.op,o.guard with
 | .mkSlice ..,none=>true
 | _,_=>false
def sr (ej:List Nat)(ops:List bU)(wr:List Bool):Bool:=xV ej ops wr||xW ops
mutual
def ep:V->V->Bool
 | .bool a,.bool b=>a==b
 | .int k n,.int bJ m=>decide (k=bJ)&&decide (n=m)
 | .str s,.str ar=>decide (s=ar)
 | .cu,.cu| .emp,.emp| .jj,.jj| .jk,.jk| .kr,.kr| .j5,.j5| .undef,.undef=>true
 | .list e ds,.list e' ds'=>decide (e=e')&&nQ ds ds'
 | .agg a,.agg b| .aF a,.aF b=>nQ a b
 | .ptr l o,.ptr fB o'=>decide (l=fB)&&decide (o=o')
 | .hz a b c d e,.hz bn eN c' d' e'=>decide (a=bn)&&(decide (b=eN)&&(decide (c=c')&&(decide (d=d')&&decide (e=e'))))
 | .dz vs f,.dz vs' mB=>nQ vs vs'&&decide (f=mB)
 | .cB a b c d e,.cB bn eN c' d' e'=>decide (a=bn)&&(decide (b=eN)&&(decide (c=c')&&(decide (d=d')&&decide (e=e'))))
 | .map l,.map fB| .yield l,.yield fB=>decide (l=fB)
 | .fn i a b,.fn zC bn eN=>decide (i=zC)&&(nQ a bn&&nQ b eN)
 | .iface t v,.iface ed v'=>decide (t=ed)&&ep v v'
 | _,_=>false
def nQ:List V->List V->Bool
 |[],[]=>true
 |a::r,b::s=>ep a b&&nQ r s
 | _,_=>false
end
def fH (call:c5):List bU->aw->Option (List aw)
 |[],st=>some [st]
 |o::r,st=>
  match gS st.aM st.ay o.guard with
  |some true=>match ch call (ai.ah st.aM st.ay) st.H st.H.length o.op with
   |some (v,H',low')=>(fH call r ({st with H:=H',low:=min st.low low'}.put o.dst v)).map (st:: ·)
   |none=>none
  |some false=>(fH call r (st.put o.dst (.aF []))).map (st:: ·)
  |none=>none
def qv (ej:List Nat)(i j:Nat):Bool:=if j<i then(ej.getD i 0).testBit j else(ej.getD j 0).testBit i
def jH (call:c5)(q:bU × aw × Heap):Bool:=
 match gS q.2.1.aM q.2.1.ay q.1.guard with
 |some false=>true
 |some true=>match ch call (ai.ah q.2.1.aM q.2.1.ay) q.2.1.H q.2.1.H.length q.1.op with
  |some (v,_,_)=>match ch call (ai.ah q.2.1.aM q.2.1.ay) q.2.2 q.2.2.length q.1.op with
   |some (v',H',low')=>ep v v'&&!eG q.2.2 H' low'
   |none=>false
  |none=>false
 |none=>false
def Jm (ej:List Nat)(wr:List Bool):Bool:=
 wr.zipIdx.all fun(w,i)=>!w||wr.zipIdx.all fun(w',j)=>!w'||i==j||qv ej i j
def Jn (ej:List Nat)(ops:List bU)(wr:List Bool)(cv:List aw):List (bU × aw × Heap):=
 ops.zipIdx.flatMap fun(o,j)=>if !gE o.op||wr.getD j false then[]else
  cv.zipIdx.flatMap fun(Co,k)=>if k==j||(k != 0&&!wr.getD (k-1) false)||wr.zipIdx.any (fun(w,i)=>w&&(i != j&&(qv ej i j&&(decide (i<j) != decide (i<k)))))then[]else
    match cv[j]? with
    |some Jo=>[(o,Jo,Co.H)]
    |none=>[]
def ss (call:c5)(ej:List Nat)(ops:List bU)(wr:List Bool)(st:aw):Bool:=
 match fH call ops st with
 |some cv=>Jm ej wr&&(Jn ej ops wr cv).all (jH call)
 |none=>false
def EH (o:bU):Bool:=match o.op,o.guard with
 | .alloc _,none=>true
 | _,_=>false
def lk (ops:List bU):Nat:=(ops.takeWhile fun o=>!EH o).length
def qw (ops:List bU):Nat:=lk ops+((ops.drop (lk ops)).takeWhile EH).length
def xX (ej:List Nat)(ops:List bU)(wr:List Bool):Bool:=
 let p:=lk ops;let q:=qw ops
 (wr.take p).all (!·)&&((wr.zipIdx).all fun(w,i)=>!w||Nat.blt i q||(ops.zipIdx).all fun(o,j)=>!gE o.op||Nat.blt j p||i==j||qv ej i j)&&
   (ops.zipIdx).all fun(o,j)=>!gE o.op||Nat.blt j q||(List.range' p (q-p)).all fun i=>qv ej i j
def Cp (ops:List bU)(cv:List aw):List (bU × aw × Heap):=(cv.drop (qw ops)).flatMap fun T=>
 ((ops.zip cv).take (lk ops)).filterMap fun(o,s)=>if gE o.op then some (o,s,T.H)else none
def pD (call:c5)(ej:List Nat)(ops:List bU)(wr:List Bool)(st:aw):Bool:=
 ss call ej ops wr st||match fH call ops st with
  |some cv=>xX ej ops wr&&(Cp ops cv).all (jH call)
  |none=>false
def iter (f:aw->Option (X × aw)):Nat->aw->Option (X × aw)
 |0,_=>none
 |n+1,st=>match f st with
  |some (.normal,bf)=>iter f n bf
  |r=>r
def Cq:V->Bool
 | .fn .. =>true
 | _=>false
def NS (ok:List Nat):V->Bool
 | .fn i [] _=>ok.contains i
 | _=>false
def EI (H:Heap):Option Nat->Bool
 |none=>true
 |some l=>match H[l]? with
  |some (.loop ..)=>true
  | _=>false
def aw.closed (st:aw):aw:=match Nat.ble st.low 0 with
 |true=>{st with aM:=[]}
 |false=>{st with aM:=[]}
theorem aw.gb (st:aw):st.closed={st with aM:=[]}:=by
 unfold aw.closed;split<;>rfl
def exec (call:c5)(n:Nat):cF->aw->Option (X × aw)
 | .skip,st=>some (.normal,st)
 | .region ops ej,st=>match c8 call ops {st with aM:=[]} []with
   |some (bf,wr)=>match ej with
    |none=>some (.normal,bf.closed)
    |some b=>if sr b ops wr||pD call b ops wr {st with aM:=[]}then some (.normal,bf.closed)else none
   |none=>none
 | .zB ops ok f,st=>match c8 call ops {st with aM:=[]} []with
   |some (bf,_)=>if(st.ro.isNone&&NS ok (f.ah bf.aM bf.ay))=true then some (.normal,bf.closed)else none
   |none=>none
 | .seq a b,st=>match exec call n a st with
   |some (.normal,bf)=>exec call n b bf
   |r=>r
 | .cond c t e,st=>match c.ah st.aM st.ay with
   | .bool true=>exec call n t st
   | .bool false=>exec call n e st
   | _=>none
 | .block id c,st=>match exec call n c st with
   |some (.exit uQ,bf)=>if uQ=id then some (.normal,bf)else some (.exit uQ,bf)
   |r=>r
 | .loop c,st=>iter (exec call n c) n st
 | .rangeFunc f params assign body,st=>
   let l:=st.H.length
   if(EI st.H st.ro&&Cq (f.ah st.aM st.ay))=false then none else
   match call (f.ah st.aM st.ay) [.yield l] (st.H++[.loop .ready .normal st.ay params assign body])with
   |some (_,H',low')=>match H'[l]? with
    |some (.loop ls uP _ _ _ _)=>if ls=.busy then none else some (uP,{st with H:=H'.set l .gone,low:=min st.low low'})
    | _=>none
   |none=>none
 | .exit id,st=>some (.exit id,st)
 | .ret,st=>some (.ret,st)
 | .fail,_=>none
def kU (ay:Env)(H:Heap):nr->Option V
 | .tmp t=>some (bZ ay t)
 | .cell a sh=>kt H sh (bZ ay a)
def gZ (env:Env)(H:Heap):List nr->Option (List V)
 |[]=>some []
 |r::rs=>match kU env H r with
  |some v=>match gZ env H rs with
   |some vs=>some (v::vs)
   |none=>none
  |none=>none
def iK:Nat->List V->Env
 | _,[]=>[]
 |i,v::r=>(i,v)::iK (i+1) r
def finish (fresh:Bool)(H0:Heap)(v:V)(H:Heap)(low:Nat):Option (V × Heap × Nat):=
 match fresh,v with
 |true,.cB l es off len tag=>match H[l]? with
  |some (.row bV ds false)=>
   if H0.length<=low/\H0.length<=l/\bV=es/\ds.length=tag/\olds H0.length ds=true then some (.cB H0.length es off len tag,H0++[.row es ds false],H0.length)else if l<H0.length then some (.cB l es off len tag,H,low)else none
  | _=>none
 | _,v=>match gl H low v with
   |some (v',H',low')=>if H0.length<=low'/\old H0.length v'=true then some (v',H0,H0.length)else some (v',H',low')
   |none=>none
abbrev zD:=List V->Heap->Option (V × List (Nat × cf) × List cf)
inductive cc where
 |code (f:ix)
 |ext (spec:List V->Option V)
 |vQ (spec:zD)
 deriving Inhabited
def Jp (H:Heap)(l:List (Nat × cf)):Heap:=l.foldl (fun H p=>H.set p.1 p.2) H
def Jq (n:Nat)(l:List (Nat × cf)):Nat:=l.foldl (fun n p=>min n p.1) n
def Cr (spec:zD)(args:List V)(H:Heap):Option (V × Heap × Nat):=(spec args H).map fun r=>(r.1,Jp H r.2.1++r.2.2,Jq H.length r.2.1)
def iL (ex:cF->aw->Option (X × aw))(f:ix)(args:List V)(H:Heap):Option (V × Heap × Nat):=
 if args.length<=f.xT then
  match ex f.body {aM:=[],ay:=iK 0 args,H,low:=H.length}with
  |some (.normal,st)|some (.ret,st)=>match gZ st.ay st.H f.results with
   |some [v]=>finish f.fresh H v st.H st.low
   |some vs=>finish f.fresh H (.aF vs) st.H st.low
   |none=>none
  | _=>none
 else none
def qx (ex:cF->aw->Option (X × aw))(l:Nat)(args:List V)(H:Heap):Option (V × Heap × Nat):=
 match H[l]? with
 |some (.loop .ready _ env params assign body)=>
  if args.length=params.length then
   match ex assign {aM:=[],ay:=(params.zip args).foldl (fun e (t,v)=>ga e t v) env,H,low:=H.length,ro:=some l}with
   |some (.normal,st)=>match st.H[l]? with
    |some (.loop .ready p Vy ps aX cJ)=>match ex body {st with H:=st.H.set l (.loop .busy p Vy ps aX cJ),low:=min st.low l}with
     |some (x,bf)=>match bf.H[l]? with
      |some (.loop _ _ ahJ Vz tn VA)=>
       some (.bool (x=.normal),bf.H.set l (.loop (if x=.normal then .ready else .done) x ahJ Vz tn VA),min bf.low l)
      | _=>none
     |none=>none
    | _=>none
   | _=>none
  else none
 | _=>none
def rl (aa:Nat->Option cc)(call:c5)(n:Nat):c5:=fun f args H=>
 match f with
 | .fn i first caps=>match aa i with
   |some (.code fn)=>iL (exec call n) fn (first++args++caps) H
   |some (.ext spec)=>if cj (first++args++caps)then(spec (first++args++caps)).map fun v=>(v,H,H.length)else none
   |some (.vQ spec)=>Cr spec (first++args++caps) H
   |none=>none
 | .yield l=>qx (exec call n) l args H
 | _=>none
def bN (aa:Nat->Option cc):Nat->c5
 |0=>fun _ _ _=>none
 |n+1=>rl aa (bN aa n) n
end Go.Abs
namespace Go.Abs
open Go
mutual
def ns:Value->Option V
 | .bool b=>some (.bool b)
 | .int k n=>some (.int k n)
 | .string s=>some (.str s.data.toList)
 | .pointer none=>some .jj
 | .slice none 0 0=>some .cu
 | .map none=>some .jk
 | .nilFunc=>some .kr
 | .nilIface=>some .j5
 | .agg ⟨vs⟩=>(Cs vs).map .agg
 | .tuple ⟨[]⟩=>some .undef
 | _=>none
def Cs:List Value->Option (List V)
 |[]=>some []
 |v::r=>match ns v with
  |some v'=>if vO v' then none else(Cs r).map (v':: ·)
  |none=>none
end
def ee{α β:Type}(f:α->Option β):List α->Option (List β)
 |[]=>some []
 |a::r=>match f a with
  |some b=>match ee f r with
   |some aQ=>some (b::aQ)
   |none=>none
  |none=>none
structure Ctx where
 P:Program
 EJ:Nat->Option Nat
 jG:String->Bool:=fun _=>true
 NT:String->Bool:=fun _=>false
 raw:Nat->Bool:=fun _=>false
 ff:Nat->Option Obj:=fun _=>none
 zE:List Nat:=[]
 zF:Option Nat:=none
 xY:Nat:=0
 VB:String->Bool:=fun _=>false
namespace Ctx
variable (C:Ctx)
def sizeOf (t:Nat):Option Nat:=(C.P.info? t).map (·.size)
def zeroCells (t:Nat):Option (List V):=match C.P.info? t with
 |some i=>match i.zero with
  |some z=>match Cs z.cells.toList with
   |some vs=>if bM vs then some vs else none
   |none=>none
  |none=>none
 |none=>none
def mark (t:Nat):List V->List V
 |[.jj,.cu]=>bif C.zF==some t then[.undef,.cu]else[.jj,.cu]
 |z=>z
def zeroV (t:Nat):Option V:=match C.P.info? t with
 |some i=>match i.zero with
  |some z=>ns z
  |none=>none
 |none=>none
def shapeOf (t:Nat):Option (Option Nat):=match C.P.underlying t with
 |some (.struct _)|some (.array _ _)=>(C.sizeOf t).map some
 |some _=>some none
 |none=>none
def cl (vars:List Nat):Operand->Option ai
 | .tmp t=>some (if vars.contains t then .var t else .tmp t)
 | .const v=>(ns v).map .const
 | .func f=>(C.EJ f).map .func
 | .global _=>none
def qy (vars:List Nat):Option Operand->Option (Option ai)
 |none=>some none
 |some x=>(C.cl vars x).map some
def j7 (t:Nat):Option Nat:=match C.P.underlying t with
 |some (.int _)=>some 0
 |some .string=>some 1
 |some .bool=>some 2
 | _=>none
def EK (i:Nat):List Field->Option (List Nat)
 |[]=>some []
 |f::fs=>match C.j7 f.type with
  |some k=>if f.name != "_" &&f.offset==i then(EK (i+1) fs).map (k:: ·)else none
  |none=>none
def Ct (i:Nat):List Field->Option (List Nat)
 |[]=>some []
 |f::fs=>match C.j7 f.type with
  |some k=>if f.name != "_" &&f.offset==i then(Ct (i+1) fs).map (k:: ·)else none
  |none=>match C.P.underlying f.type with
   |some (.struct gs)=>match C.EK 0 gs.toList with
    |some ks=>if f.name != "_" &&f.offset==i&&!C.P.stoodInHeld f.type&&C.sizeOf f.type==some ks.length then(Ct (i+ks.length) fs).map (ks++ ·)else none
    |none=>none
   | _=>none
def structEq (t:Nat):Option (List Nat):=match C.P.underlying t with
 |some (.struct fs)=>if !C.P.stoodInHeld t&&!C.P.eqGuardType C.P.depth t then C.Ct 0 fs.toList else none
 | _=>none
def Jr:ai->Bool
 | .const .j5=>true
 | _=>false
def zG (d:TypeDesc)(x y:ai)(plain:cX)(neg:Bool):Option cX:=
 match d with
 | .int _| .string=>some plain
 | .pointer _=>some (.sk 0 neg x y)
 | .slice _=>some (.sk 1 neg x y)
 | .func .. =>some (.sk 2 neg x y)
 | .interface _=>if Jr y then some (.sk 3 neg x y)else none
 | .bool=>some (.sk 4 neg x y)
 | _=>none
def builtin (vars:List Nat)(pos:String)(b:Builtin)(args:Array Operand)(ts:Array TypeId):Option cX:=
 match b,args.toList,ts.toList with
 | .len,[x],[t]=>match C.P.underlying t with
   |some .string=>(C.cl vars x).map (.len 0)
   |some (.slice _)=>(C.cl vars x).map (.len 1)
   |some (.map _ _)=>(C.cl vars x).map (.len 2)
   | _=>none
 | .append,[a,b],[t,u]=>match C.P.underlying t,C.P.underlying u with
   |some (.slice e),some (.slice _)=>match C.P.info? e,C.cl vars a,C.cl vars b with
    |some i,some a,some b=>if i.size=0||i.zero.map (·.cells.size) != some i.size then none else some (if C.NT pos then .xS i.size i.bytes a b else .append i.size i.bytes a b)
    | _,_,_=>none
   |some (.slice e),some .string=>match C.P.info? e,C.cl vars a,C.cl vars b with
    |some i,some a,some b=>if i.size=1&&i.bytes==1&&i.zero.map (·.cells.size)==some 1 then some (if C.VB pos&&e==C.xY then .EG a b else .EF a b)else none
    | _,_,_=>none
   | _,_=>none
 | .delete,[m,k],[t,_]=>match C.P.underlying t,C.cl vars m,C.cl vars k with
   |some (.map eO _),some m,some k=>(C.j7 eO).map fun b5=>.zA b5 m k
   | _,_,_=>none
 | .recover,[],_=>none
 | .max,[a,b],_=>match C.cl vars a,C.cl vars b with
   |some a,some b=>some (.vM true a b)
   | _,_=>none
 | .copy,[a,b],[t,u]=>match C.P.underlying t,C.P.underlying u with
   |some (.slice e),some (.slice _)=>match C.sizeOf e,C.cl vars a,C.cl vars b with
    |some n,some a,some b=>if n=0 then none else some (.copy n a b)
    | _,_,_=>none
   | _,_=>none
 | .min,[a,b],_=>match C.cl vars a,C.cl vars b with
   |some a,some b=>some (.vM false a b)
   | _,_=>none
 | _,_,_=>none
def c2 (vars:List Nat)(pos:String):Op->Option cX
 | .move x| .assign x=>(C.cl vars x).map .mv
 | .pick c a b=>match C.cl vars c,C.cl vars a,C.cl vars b with
   |some c,some a,some b=>some (.pick c a b)
   | _,_,_=>none
 | .alloc t=>(C.zeroCells t).map fun z=>.alloc (C.mark t z)
 | .box _ x=>(C.cl vars x).map .box
 | .build t parts=>match C.P.underlying t,C.zeroCells t with
   |some (.struct fs),some z=>if fs.toList.any (fun f=>(C.sizeOf f.type).isNone)then none else(ee (fun(p:Nat × Operand)=>match fs[p.1]? with
     |some f=>match C.sizeOf f.type,C.cl vars p.2 with
      |some n,some x=>some (f.offset,n,x)
      | _,_=>none
     |none=>none) parts.toList).map (.build z)
   |some (.array _ e),some z=>match C.sizeOf e with
    |some n=>(ee (fun(p:Nat × Operand)=>match C.cl vars p.2 with
      |some x=>some (p.1*n,n,x)
      |none=>none) parts.toList).map (.build z)
    |none=>none
   | _,_=>none
 | .buildSlice t len parts=>match C.P.underlying t with
   |some (.slice e)=>match C.sizeOf e,C.zeroCells e,ee (fun(p:Nat × Operand)=>(C.cl vars p.2).map fun x=>(p.1,x)) parts.toList with
    |some n,some z,some ps=>if n=0\/len*n>2^24\/z.length≠n then none else some (.lit n z len ps (match C.P.underlying e with|some (.func ..)=>false| _=>C.jG pos))
    | _,_,_=>none
   | _=>none
 | .load t a=>match C.shapeOf t,C.cl vars a with
   |some sh,some a=>some (.load sh a)
   | _,_=>none
 | .store t a x=>match C.sizeOf t,C.cl vars a,C.cl vars x with
   |some n,some a,some x=>some (.store n a x)
   | _,_,_=>none
 | .nilCheck x=>(C.cl vars x).map .nilCheck
 | .binOp o t x y _=>match C.cl vars x,C.cl vars y with
   |some x,some y=>match o,C.P.underlying t with
    | .eql,some (.struct _)=>(C.structEq t).map fun n=>.zz false n x y
    | .neq,some (.struct _)=>(C.structEq t).map fun n=>.zz true n x y
    | .eql,some d=>zG d x y (.bin .eql x y) false
    | .neq,some d=>zG d x y (.bin .neq x y) true
    | .eql,none| .neq,none=>none
    | _,_=>some (.bin o x y)
   | _,_=>none
 | .unOp o _ x=>(C.cl vars x).map (.un o)
 | .convert s d x=>match C.P.underlying s,C.P.underlying d,C.cl vars x with
   |some (.int _),some (.int k),some x=>some (.conv k x)
   |some (.slice e),some .string,some x=>match C.P.underlying e with
    |some (.int .u8)=>some (.vL x)
    | _=>none
   | _,_,_=>none
 | .makeInterface t x=>match C.P.underlying t,C.cl vars x with
   |some (.interface _),_=>none
   |some _,some x=>some (.Cm t x)
   | _,_=>none
 | .makeFunc (.func f) a b=>match C.EJ f,ee (C.cl vars) a.toList,ee (C.cl vars) b.toList with
   |some i,some a,some b=>some (.tk i a b)
   | _,_,_=>none
 | .makeMap _ none=>some .mkMap
 | .makeSlice t l c=>match C.P.underlying t with
   |some (.slice e)=>match C.P.info? e,C.zeroCells e,C.cl vars l,C.cl vars c with
    |some i,some z,some l,some c=>if i.size=0\/z.length≠i.size then none else some (.mkSlice i.size z i.bytes l c)
    | _,_,_,_=>none
   | _=>none
 | .slice t x lo hi mx=>match C.P.underlying t,C.cl vars x,C.qy vars lo,C.qy vars hi,C.qy vars mx with
   |some .string,some x,some lo,some hi,some none=>some (.rf x lo hi)
   |some (.slice e),some x,some lo,some hi,some mx=>match C.sizeOf e with
    |some n=>if n=0||(hi.isNone&&mx.isSome)then none else some (.tl n x lo hi mx)
    |none=>none
   | _,_,_,_,_=>none
 | .fieldAddr s x f=>match C.P.underlying s,C.cl vars x with
   |some (.struct fs),some x=>match fs[f]? with
    |some bc=>match C.sizeOf bc.type with
     |some n=>if n=0 then none else some (.fieldAddr bc.offset x)
     |none=>none
    |none=>none
   | _,_=>none
 | .field s x f=>match C.P.underlying s,C.cl vars x with
   |some (.struct fs),some x=>match fs[f]? with
    |some bc=>(C.shapeOf bc.type).map fun sh=>.field bc.offset sh x
    |none=>none
   | _,_=>none
 | .indexAddr t x i=>match C.P.underlying t,C.cl vars x,C.cl vars i with
   |some (.slice e),some x,some i=>match C.sizeOf e with
    |some n=>if n=0 then none else some (.indexAddr n x i)
    |none=>none
   | _,_,_=>none
 | .index t x i=>match C.P.underlying t,C.cl vars x,C.cl vars i with
   |some .string,some x,some i=>some (.sn x i)
   | _,_,_=>none
 | .lookup t x i ok=>match C.P.underlying t,C.cl vars x,C.cl vars i with
   |some (.map k e),some x,some i=>match C.j7 k,C.zeroV e with
    |some b5,some z=>if vO z then none else some (.lookup b5 z x i ok)
    | _,_=>none
   | _,_,_=>none
 | .mapUpdate t m k v=>match C.P.underlying t,C.cl vars m,C.cl vars k,C.cl vars v with
   |some (.map eO _),some m,some k,some v=>(C.j7 eO).map fun b5=>.qu b5 m k v
   | _,_,_,_=>none
 | .insert t m k v=>match C.P.underlying t,C.cl vars m,C.cl vars k,C.cl vars v with
   |some (.map eO _),some m,some k,some v=>(C.j7 eO).map fun b5=>.qu b5 m k v
   | _,_,_,_=>none
 | .extract x i=>(C.cl vars x).map fun x=>.extract x i
 | .call {callee:=.value f,args,.. }=>match C.cl vars f,ee (C.cl vars) args.toList with
   |some f,some aX=>some (.call (match f with| .func i=>C.raw i| _=>false) f aX)
   | _,_=>none
 | .call {callee:=.builtin b,args,argTypes}=>C.builtin vars pos b args argTypes
 | _=>none
def op (vars:List Nat)(pos:String)(o:Op):cX:=(C.c2 vars pos o).getD .fail
def guard (vars:List Nat)(ops:Array Oper):Option (Nat × Bool)->Option (Option (ai × Bool))
 |none=>some none
 |some (j,want)=>match(ops[j]?).bind (·.dst)with
  |some d=>some (some (if vars.contains d then .var d else .tmp d,want))
  |none=>none
def oper (vars:List Nat)(n:Nat)(ops:Array Oper)(o:Oper):Option bU:=
 match guard vars ops o.guard with
 |some g=>match o.dst with
  |none=>some {dst:=none,op:=C.op vars o.pos o.op,guard:=g}
  |some d=>if d<n then some {dst:=some (d,vars.contains d),op:=C.op vars o.pos o.op,guard:=g}else none
 |none=>none
def zH (ops:Array Oper):Bool:=
 ops.toList.zipIdx.all fun(o,i)=>o.after.all fun e=>match e.ground with| .gcOnly _=>true| _=>decide (e.on<i)
def tmpsOf (xs:Array Operand):List Nat:=xs.toList.filterMap fun| .tmp t=>some t| _=>none
def gd (ops:Array Oper)(o:Oper):List Nat:=
 tmpsOf o.op.operands++(match o.guard with|some (j,_)=>((ops[j]?).bind (·.dst)).toList|none=>[])
def zI (ops:Array Oper):Bool:=
 let b:=CheckFast.beforeF ops
 ops.toList.zipIdx.all fun(o,j)=>ops.toList.zipIdx.all fun(p,i)=>
  match p.dst with
  |none=>true
  |some d=>i==j||!(o.dst==some d||(gd ops o).contains d)||(b.getD (max i j) 0).testBit (min i j)
def xZ (ops:Array Oper)(o:Oper)(a:bU):Bool:=
 a.op.operands.all fun
   | .tmp t| .var t=>(gd ops o).contains t
   | _=>true
def NU (vars:List Nat)(n:Nat)(ops:Array Oper):Option cF:=match C.zE,ops.toList.getLast? with
 |[],_=>none
 | _,some h9=>match h9.op,h9.guard with
   | .defer {callee:=.value f,args,.. },none=>match args.toList,ee (C.oper vars n ops) ops.toList.dropLast,C.cl vars f with
     |[],some bR,some mC=>if h9.dst.isNone then some (.zB bR C.zE mC)else none
     | _,_,_=>none
   | _,_=>none
 | _,none=>none
def code (vars:List Nat)(n:Nat):Code->Option cF
 | .skip=>some .skip
 | .region _ ops draw=>match(if draw then none else C.NU vars n ops)with
   |some r=>some r
   |none=>match ee (C.oper vars n ops) ops.toList with
    |some bR=>if !draw then some (.region bR none)
    else if zH ops&&zI ops&&(ops.toList.zip bR).all (fun(o,a)=>xZ ops o a)then some (.region bR (some (CheckFast.beforeF ops).toList))else none
    |none=>none
 | .seq a b=>match code vars n a,code vars n b with
   |some a,some b=>some (.seq a b)
   | _,_=>none
 | .cond c t e=>match C.cl vars c,code vars n t,code vars n e with
   |some c,some t,some e=>some (.cond c t e)
   | _,_,_=>none
 | .block id c=>(code vars n c).map (.block id)
 | .loop c=>(code vars n c).map .loop
 | .rangeFunc f ps a b=>match C.cl vars f,code vars n a,code vars n b with
   |some f,some a,some b=>if ps.all (fun t=>decide (t<n)&&vars.contains t)then some (.rangeFunc f ps.toList a b)else none
   | _,_,_=>none
 | .exit id=>some (.exit id)
 | .ret=>some .ret
 | _=>some .fail
def x0:Code->List Nat
 | .region _ ops _=>(ops.toList.foldl (fun(acc:List Nat × List Nat) o=>
  let g:=match o.guard with|some (j,_)=>((ops[j]?).bind (·.dst)).toList|none=>[]
  let reads:=(g++tmpsOf o.op.operands).filter fun t=>!acc.2.contains t
  (acc.1++reads,o.dst.toList++acc.2)) ([],[])).1
 | .seq a b=>x0 a++x0 b
 | .cond c t e=>tmpsOf #[c]++x0 t++x0 e
 | .block _ c| .loop c=>x0 c
 | .rangeFunc f ps a b=>tmpsOf #[f]++ps.toList++x0 a++x0 b
 | _=>[]
def res:ResultVar->Option nr
 | .tmp t=>some (.tmp t)
 | .cell a t=>(C.shapeOf t).map (.cell a)
def su:List ResultVar->List Nat
 |[]=>[]
 | .tmp t::r=>t::su r
 | .cell a _::r=>a::su r
def varsOf (f:Func):List Nat:=
 ((List.range (f.params.size+f.nfree)++su f.results.toList++(match f.body with|some c=>x0 c|none=>[])).eraseDups)
def func (f:Func)(fresh:Bool):Option ix:=
 match f.body with
 |some c=>match C.code (varsOf f) f.ntmps c,ee C.res f.results.toList with
  |some b,some rs=>if f.name== "runtime.NumGoroutine" then none else some {xT:=f.ntmps,body:=b,results:=rs,fresh}
  | _,_=>none
 |none=>none
end Ctx
end Go.Abs
