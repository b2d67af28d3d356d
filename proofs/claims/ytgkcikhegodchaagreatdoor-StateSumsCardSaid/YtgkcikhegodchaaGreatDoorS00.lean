/- Texts of this claim, joined and written short by a program. -/
import Derived.Calls
import Derived.CheckFast
set_option linter.unusedVariables false
set_option linter.unusedSimpArgs false
set_option linter.unusedSectionVars false
namespace Go.Abs
set_option linter.defProp false
def aA := @Option.some.injEq
def bm := @Option.bind_some
def cj := @Option.map_eq_some_iff
def aF := @Nat.le_refl
def bq := @Prod.mk.injEq
def cn := @Bool.and_eq_true
def dW := @Option.bind_eq_some_iff
def e0 := @List.getElem?_eq_some_iff
def ey := @Nat.eq_of_beq_eq_true
def fB := @List.getElem?_append_left
def gq := @List.getElem?_eq_getElem
def cM := @Nat.le_trans
def cD := @Nat.zero_le
def de := @List.map_cons
def dS := @List.prefix_rfl
def dp := @List.mem_cons
def js := @List.mem_zipIdx_iff_getElem?
def iL := @List.getD_eq_getElem?_getD
def fC := @Array.length_toList
def gr := @Array.getElem?_toList
def ef := @List.length_map
def eU := @List.all_eq_true
def fD := @List.length_append
def fE := @Bool.false_eq_true
def gV := @List.mem_of_getElem?
def fl := @List.length_cons
def dP := @Nat.zero_add
def dX := @List.mem_map
def iv := @List.getElem?_set_ne
def eO := @List.cons.inj
def hB := @List.prefix_append
def h8 := @List.getElem?_map
def fF := @Bool.true_and
def kQ := @List.mem_cons_of_mem
def nz := @List.getElem?_cons_zero
def mP := @List.getElem?_set_self
def ma := @Nat.le_of_ble_eq_true
def fV := @Nat.lt_or_ge
def kd := @List.flatMap_cons
def iM := @List.nil_append
def oq := @Nat.exists_eq_add_of_le
def pK := @List.drop_eq_getElem_cons
def kr := @List.append_assoc
def jc := @List.mem_append
def nA := @List.getElem?_eq_none
def jN := @Bool.or_eq_true
def jO := @Nat.min_le_left
def jP := @List.map_append
def iN := @Bool.not_true
def mb := @Bool.not_eq_true'
def pL := @List.mem_iff_getElem?
def pM := @List.mem_append_right
def lN := @List.cons_append
def tS := @Array.getElem?_eq_some_iff
def iO := @List.map_nil
def pN := @List.map_congr_left
def u0 := @List.getElem?_append_right
def nB := @Nat.min_le_right
def mQ := @List.length_nil
def w8 := @Array.getD_eq_getD_getElem?
def pO := @List.mem_cons_self
def tT := @List.all_eq_not_any_not
def o0 := @List.ext_getElem?
def sD := @List.getElem?_toArray
def sE := @List.contains_iff_mem
def rA := @List.mem_map_of_mem
def ot := @List.foldl_cons
def kR := @List.map_map
def rB := @Nat.lt_of_lt_of_le
def u1 := @List.drop_eq_nil_of_le
def o1 := @Option.map_some
def qv := @List.length_drop
def qw := @List.range'_succ
def pP := @List.append_nil
def rC := @Nat.le_max_right
def rD := @List.any_eq_true
def rE := @List.not_mem_nil
def yx := @List.length_eq_zero_iff
def qx := @Nat.min_eq_left
def yy := @List.getElem?_cons_succ
def w9 := @List.mem_append_left
def tU := @List.nodup_append
def sF := @Nat.le_max_left
def tV := @List.length_take
def tW := @Option.getD_some
def tX := @Nat.min_eq_right
def sG := @List.nodup_cons
def u2 := @List.size_toArray
def Dz := @List.getElem?_zip_eq_some
def DA := @List.sublist_append_right
def yz := @Bool.or_eq_false_iff
def Be := @Array.getElem?_eq_none
def qy := @Nat.add_assoc
def Bf := @List.length_replicate
def qz := @Nat.le_of_lt
def yA := @List.mem_singleton
def qA := @Nat.ne_of_lt
def tY := @List.drop_drop
def u3 := @Option.some.inj
def HC := @Array.getElem?_eq_getElem
def Bg := @List.length_pos_iff
def Bh := @List.filterMap_cons
def DB := @Array.getElem?_modify
def yB := @Array.size_append
def xa := @List.cons.injEq
def HD := @Int.eq_ofNat_of_zero_le
def tZ := @Bool.false_or
def xb := @Bool.eq_iff_iff
def DC := @List.mem_of_mem_take
def DD := @List.range_eq_range'
def DE := @List.getElem?_of_mem
def yC := @Nat.lt_succ_self
def sH := @Nat.min_self
def HE := @List.take_of_length_le
def DF := @List.replicate_succ
def SS := @Array.getElem?_setIfInBounds_ne
def Bi := @List.take_add_one
def xc := @Bool.not_false
def Mb := @List.pairwise_iff_getElem
def yD := @List.length_set
def yE := @Option.map_none
def DG := @List.zip_cons_cons
def HF := @List.mem_of_mem_drop
def HG := @List.set_append_left
def HH := @Nat.mul_le_mul_right
def yF := @Bool.and_assoc
def kS := @Ne.symm
def Mc := @List.drop_of_length_le
def SU := @Array.getElem?_append_left
def DH := @List.map_toArray
def DI := @List.mem_flatMap
def DJ := @List.take_length
def Md := @List.take_append_drop
def HI := @Nat.add_right_comm
def HJ := @List.mem_filterMap
def HK := @List.pairwise_cons
def Me := @List.length_filter_le
def u4 := @Nat.add_mul
def Bj := @List.mem_range
def HL := @Int.toNat_natCast
def aft := @Array.toList_eraseIdxIfInBounds
def HM := @Bool.not_eq_false
def HN := @List.Sublist.refl
def HO := @List.flatten_cons
def yG := @Nat.succ_mul
def yH := @Nat.add_zero
def afu := @Array.eq_empty_of_size_eq_zero
def yI := @Nat.beq_refl
def Bk := @Bool.and_true
def Mf := @List.toList_toArray
def Mg := @List.flatMap_append
def Bl := @Bool.and_self
def HP := @Nat.max_eq_right
def HQ := @List.getElem_map
def DK := @List.nodup_nil
def DL := @List.foldl_nil
def SV := @Int.tdiv_eq_zero_of_lt
def Mh := @List.getElem?_drop
def Mi := @List.getElem?_take
def Mj := @List.set_cons_zero
def Mk := @Nat.pos_of_ne_zero
def HR := @Nat.max_eq_left
def yJ := @Int.le_refl
def HS := @List.find?_cons
def Ml := @Nat.lt_succ_of_lt
def xd := @Go.Calls.mono
def Mm := @Bool.eq_false_iff
def SX := @List.pairwise_append
def afv := @Array.filter_eq_empty_iff
def HT := @List.drop_zero
def HU := @Nat.mul_le_mul
def Mn := @Nat.le_add_right
def Mo := @List.drop_append
def Mp := @List.isEmpty_nil
def Mq := @List.getElem_mem
def SY := @List.drop_succ_cons
def SZ := @List.take_succ_cons
def DM := @Int.zero_add
def S0 := @List.set_cons_succ
def S1 := @Array.foldl_toList
def S2 := @Nat.eq_zero_or_pos
def afw := @List.eraseIdx_cons_zero
def afx := @List.eraseIdx_cons_succ
def S3 := @List.findIdx?_cons
def afy := @Array.contains_iff_mem
def DN := @Nat.le_succ
def S4 := @Array.toList_push
def S5 := @List.any_eq_false
def S6 := @List.foldl_append
def Mr := @Int.mul_le_mul
def Ms := @Bool.false_and
def HV := @Nat.zero_mul
def Mt := @List.all_cons
def HW := @Nat.mul_one
inductive V where
 |bool (b:Bool)
 |int (k:IntKind) (n:Int)
 |str (s:List UInt8)
 |bX
 |emp
 |list (es:Nat) (ds:List V)
 |agg (vs:List V)
 |aU (vs:List V)
 |jd
 |ptr (l o:Nat)
 |gW (l es i f tag:Nat)
 |dH (vs:List V) (f:Nat)
 |ca (l es off len tag:Nat)
 |jt
 |map (l:Nat)
 |kt
 |fn (i:Nat) (first caps:List V)
 |yield (l:Nat)
 |jQ
 |iface (t:Nat) (v:V)
 |undef
 deriving Inhabited
inductive ai where
 |tmp (t:Nat)
 |var (t:Nat)
 |const (v:V)
 |func (i:Nat)
 deriving Inhabited
inductive cN where
 |mv (x:ai)
 |pick (c a b:ai)
 |alloc (z:List V)
 |box (x:ai)
 |build (z:List V) (parts:List (Nat × Nat × ai))
 |lit (es:Nat) (z:List V) (len:Nat) (parts:List (Nat × ai)) (ju:Bool)
 |load (sh:Option Nat) (x:ai)
 |store (n:Nat) (a x:ai)
 |nilCheck (x:ai)
 |bin (op:BinOp) (x y:ai)
 |yK (neg:Bool) (ks:List Nat) (x y:ai)
 |rF (kind:Nat) (neg:Bool) (x y:ai)
 |un (op:UnOp) (x:ai)
 |conv (k:IntKind) (x:ai)
 |Bm (t:Nat) (x:ai)
 |ua (i:Nat) (first caps:List ai)
 |mkMap
 |mkSlice (es:Nat) (z:List V) (bytes:Nat) (l c:ai)
 |qB (x:ai) (lo hi:Option ai)
 |sI (es:Nat) (x:ai) (lo hi mx:Option ai)
 |fieldAddr (off:Nat) (x:ai)
 |field (off:Nat) (sh:Option Nat) (x:ai)
 |indexAddr (es:Nat) (x i:ai)
 |rG (x i:ai)
 |lookup (kind:Nat) (z:V) (x i:ai) (ok:Bool)
 |pQ (kind:Nat) (m k v:ai)
 |yL (kind:Nat) (m k:ai)
 |DP (a b:ai)
 |DQ (a b:ai)
 |u5 (x:ai)
 |extract (x:ai) (i:Nat)
 |len (kind:Nat) (x:ai)
 |append (es bytes:Nat) (a b:ai)
 |xe (es bytes:Nat) (a b:ai)
 |u6 (mx:Bool) (x y:ai)
 |copy (es:Nat) (a b:ai)
 |call (raw:Bool) (f:ai) (args:List ai)
 |fail
 deriving Inhabited
structure bI where
 dst:Option (Nat × Bool)
 op:cN
 guard:Option (ai × Bool)
 deriving Inhabited
inductive cm where
 |skip
 |region (ops:List bI) (dT:Option (List Nat))
 |yM (ops:List bI) (ok:List Nat) (f:ai)
 |seq (a b:cm)
 |cond (c:ai) (t e:cm)
 |block (id:Nat) (body:cm)
 |loop (body:cm)
 |rangeFunc (f:ai) (params:List Nat) (assign body:cm)
 |exit (id:Nat)
 |ret
 |fail
 deriving Inhabited
inductive mR where
 |tmp (t:Nat)
 |cell (a:Nat) (sh:Option Nat)
 deriving Inhabited
structure jv where
 yN:Nat
 body:cm
 results:List mR
 fresh:Bool
 deriving Inhabited
abbrev Env:=List (Nat × V)
inductive X where
 |normal
 |exit (id:Nat)
 |ret
 deriving DecidableEq,Inhabited
inductive bU where
 |cells (vs:List V)
 |row (es:Nat) (ds:List V) (fz:Bool)
 |map (bf:List (V × V))
 |loop (st:LoopState) (ub:X) (env:Env) (params:List Nat) (assign body:cm)
 |qC (s:List UInt8)
 |dead (n:Nat)
 |gone
 deriving Inhabited
abbrev Heap:=List bU
structure av where
 aC:Env
 au:Env
 H:Heap
 low:Nat
 ro:Option Nat:=none
 deriving Inhabited
def aE:V->List V
 | .agg vs=>vs
 |v=>[v]
mutual
def bx:V->Bool
 | .bool _| .int _ _| .str _| .bX| .emp| .list _ _| .jd| .jt| .kt| .jQ=>true
 | .agg vs| .aU vs=>cg vs
 | .iface _ v=>bx v
 | .fn _ a b=>cg a&&cg b
 | _=>false
def cg:List V->Bool
 |[]=>true
 |v::r=>bx v&&cg r
end
mutual
def flat:V->Bool
 | .bool _| .int _ _| .str _| .bX| .emp| .jd| .jt| .kt| .jQ=>true
 | .agg vs| .aU vs=>u7 vs
 | _=>false
def u7:List V->Bool
 |[]=>true
 |v::r=>flat v&&u7 r
end
mutual
def old (n:Nat):V->Bool
 | .ptr l _| .gW l _ _ _ _| .ca l _ _ _ _| .map l| .yield l=>decide (l<n)
 | .agg vs| .aU vs=>olds n vs
 | .fn _ a b=>olds n a&&olds n b
 | .iface _ v=>old n v
 | .undef=>false
 | _=>true
def olds (n:Nat):List V->Bool
 |[]=>true
 |v::r=>old n v&&olds n r
end
def uc:V->Bool
 | .undef=>true
 | _=>false
def iw (cs:List V)(o:Nat):Option Nat->Option V
 |none=>cs[o]?
 |some n=>if o+n<=cs.length then some (.agg ((cs.drop o).take n))else none
def setCells (cs:List V)(o:Nat):List V->List V
 |[]=>cs
 |x::xs=>setCells (cs.set o x) (o+1) xs
def bA:Env->Nat->V
 |[],_=>.undef
 |(k,v)::r,t=>if k=t then v else bA r t
def dw:Env->Nat->V->Env
 |[],t,v=>[(t,v)]
 |(k,u)::r,t,v=>if k=t then(k,v)::r else(k,u)::dw r t v
def ai.ag (aC au:Env):ai->V
 | .tmp t=>bA aC t
 | .var t=>bA au t
 | .const v=>v
 | .func i=>.fn i [] []
def jR (H:Heap)(sh:Option Nat):V->Option V
 | .ptr l o=>match H[l]? with
   |some (.cells vs)=>iw vs o sh
   | _=>none
 | .gW l es i f tag=>match H[l]? with
   |some (.row bK ds _)=>if bK=es/\ds.length=tag then(ds[i]?).bind fun d=>iw (aE d) f sh else none
   | _=>none
 | .dH vs f=>iw vs f sh
 | _=>none
def xf (d:V)(f:Nat)(xs:List V):Option V:=
 match d with
 | .agg vs=>if f+xs.length<=vs.length then some (.agg (setCells vs f xs))else none
 | _=>match f,xs with
   |0,[x]=>some x
   | _,_=>none
def ez:V->Bool
 | .agg _| .aU _| .undef=>false
 | _=>true
def bM:List V->Bool
 |[]=>true
 |v::r=>ez v&&bM r
def plainCell:V->Bool
 | .agg _| .aU _| .undef| .dH .. | .gW .. =>false
 | _=>true
def mc:List V->Bool
 |[]=>true
 |v::r=>plainCell v&&mc r
def jw (H:Heap)(n:Nat)(a v:V):Option (Heap × Nat):=
 match a with
 | .ptr l o=>match H[l]? with
   |some (.cells vs)=>if(aE v).length=n/\o+n<=vs.length/\bM (aE v)=true then some (H.set l (.cells (setCells vs o (aE v))),l)else none
   | _=>none
 | .gW l es i f tag=>match H[l]? with
   |some (.row bK ds false)=>
    if bK=es/\ds.length=tag/\(aE v).length=n/\mc (aE v)=true then
     match ds[i]? with
     |some d=>match xf d f (aE v)with
      |some d'=>some (H.set l (.row es (ds.set i d') false),l)
      |none=>none
     |none=>none
    else none
   | _=>none
 | _=>none
def kT (f:Heap->Nat->V->Option (V × Heap × Nat))(H:Heap)(low:Nat):List V->Option (List V × Heap × Nat)
 |[]=>some ([],H,low)
 |v::r=>match f H low v with
  |some (v',H1,bG)=>match kT f H1 bG r with
   |some (mS,H2,dB)=>some (v'::mS,H2,dB)
   |none=>none
  |none=>none
def dQ:Nat->Heap->Nat->V->Option (V × Heap × Nat)
 |0,H,low,v=>if bx v then some (v,H,low)else none
 |n+1,H,low,v=>
  if bx v then some (v,H,low)else
  match v with
  | .agg vs=>match kT (dQ n) H low vs with
    |some (vs',H',low')=>some (.agg vs',H',low')
    |none=>none
  | .aU vs=>match kT (dQ n) H low vs with
    |some (vs',H',low')=>some (.aU vs',H',low')
    |none=>none
  | .ca l es off len tag=>match H[l]? with
    |some (.row bK ds fz)=>
     if bK=es/\ds.length=tag/\off+len<=ds.length then
      if cg ds=true then some (.list es ((ds.drop off).take len),if fz then H else H.set l (.row es ds true),if fz then low else min low l)
      else match kT (dQ n) H low ds with
       |some (ds',H',low')=>match H'[l]? with
        |some (.row S7 yO false)=>
         if S7=es/\yO.length=tag/\cg ds'=true then some (.list es ((ds'.drop off).take len),H'.set l (.row es ds' true),min low' l)else none
        | _=>none
       |none=>none
     else none
    | _=>none
  |v=>some (v,H,low)
def fN (H:Heap)(low:Nat)(v:V):Option (V × Heap × Nat):=dQ 16 H low v
def eV (H:Heap)(low:Nat):List V->Option (List V × Heap × Nat)
 |[]=>some ([],H,low)
 |v::r=>match fN H low v with
  |some (v',H1,bG)=>match eV H1 bG r with
   |some (mS,H2,dB)=>some (v'::mS,H2,dB)
   |none=>none
  |none=>none
def elems (H:Heap)(es:Nat):V->Option (List V)
 | .bX| .emp=>some []
 | .list bK ds=>if bK=es then some ds else none
 | .ca l bK off len tag=>match H[l]? with
   |some (.row fb ds _)=>if bK=es/\fb=es/\ds.length=tag/\off+len<=ds.length then some ((ds.drop off).take len)else none
   | _=>none
 | _=>none
def pR:V->Option Bool
 | .bool b=>some b
 | _=>none
def ku:V->Option Nat
 | .int _ n=>if 0<=n then some n.toNat else none
 | _=>none
def eg (op:BinOp)(x y:V):Option V:=
 match op,x,y with
 | .shl,.int k a,.int _ b=>if 0<=b/\b.toNat<=k.bits then some (.int k (k.wrap (a*2^b.toNat)))else none
 | .shr,.int k a,.int _ b=>if 0<=b/\b.toNat<=k.bits then some (.int k (a/2^b.toNat))else none
 |op,.int k a,.int bz b=>
  if k≠bz then none else
  match op with
  | .add=>some (.int k (k.wrap (a+b)))
  | .sub=>some (.int k (k.wrap (a-b)))
  | .mul=>some (.int k (k.wrap (a*b)))
  | .quo=>if b=0 then none else some (.int k (k.wrap (a.tdiv b)))
  | .rem=>if b=0 then none else some (.int k (a.tmod b))
  | .eql=>some (.bool (a==b))
  | .neq=>some (.bool (a != b))
  | .lss=>some (.bool (decide (a<b)))
  | .leq=>some (.bool (decide (a<=b)))
  | .gtr=>some (.bool (decide (a>b)))
  | .geq=>some (.bool (decide (a>=b)))
  | .and=>some (.int k (k.wrap ((BitVec.ofInt k.bits a &&& BitVec.ofInt k.bits b).toNat)))
  | _=>none
 | .add,.str a,.str b=>if a.length+b.length<=2^40 then some (.str (a++b))else none
 | .eql,.str a,.str b=>some (.bool (a==b))
 | .neq,.str a,.str b=>some (.bool (a != b))
 | _,_,_=>none
def qD (kind:Nat)(x y:V):Option Bool:=
 match kind,x,y with
 |0,.jd,.jd=>some true
 |0,.ptr _ _,.jd|0,.jd,.ptr _ _=>some false
 |1,.bX,.bX=>some true
 |1,.emp,.bX|1,.list _ _,.bX|1,.ca _ _ _ _ _,.bX=>some false
 |2,.kt,.kt=>some true
 |2,.fn _ _ _,.kt=>some false
 |3,.jQ,.jQ=>some true
 |3,.iface _ _,.jQ=>some false
 |4,.bool a,.bool b=>some (a==b)
 | _,_,_=>none
def pS (op:UnOp)(x:V):Option V:=
 match op,x with
 | .neg,.int k n=>some (.int k (k.wrap (0-n)))
 | .not,.bool b=>some (.bool !b)
 | _,_=>none
def ix:Nat->V->V->Option Bool
 |0,.int k a,.int bz b=>if k=bz then some (a==b)else none
 |1,.str a,.str b=>some (a==b)
 |2,.bool a,.bool b=>some (a==b)
 | _,_,_=>none
def kx:List Nat->List V->List V->Option Bool
 |[],[],[]=>some true
 |k::ks,a::x,b::y=>match ix k a b with
  |some e=>match kx ks x y with
   |some e'=>some (e&&e')
   |none=>none
  |none=>none
 | _,_,_=>none
def hK (kind:Nat)(k:V):List (V × V)->Option (Option V)
 |[]=>some none
 |(bz,v)::r=>match ix kind k bz with
  |some true=>some (some v)
  |some false=>hK kind k r
  |none=>none
def kU (kind:Nat)(k v:V):List (V × V)->List (V × V)
 |[]=>[(k,v)]
 |(bz,u)::r=>if ix kind k bz=some true then(k,v)::r else(bz,u)::kU kind k v r
def je (kind:Nat)(k:V):List (V × V)->List (V × V)
 |[]=>[]
 |(bz,u)::r=>if ix kind k bz=some true then r else(bz,u)::je kind k r
def bytesOf:List V->Option (List UInt8)
 |[]=>some []
 | .int .u8 n::r=>(bytesOf r).map (UInt8.ofNat n.toNat:: ·)
 | _=>none
def sJ (cs:List V):List (Nat × Nat × V)->Option (List V)
 |[]=>some cs
 |(off,n,v)::r=>if(aE v).length=n/\off+n<=cs.length/\bM (aE v)=true then sJ (setCells cs off (aE v)) r else none
def pT (es:Nat)(ds:List V):List (Nat × V)->Option (List V)
 |[]=>some ds
 |(i,v)::r=>if(aE v).length=es/\i<ds.length/\bM (aE v)=true then pT es (ds.set i v) r else none
def lr (z:List V):V:=match z with|[x]=>x| _=>.agg z
def e1 (ag:ai->V)(Mu:Nat):Option ai->Option Nat
 |none=>some Mu
 |some x=>ku (ag x)
def step (ag:ai->V)(H:Heap)(low:Nat):cN->Option (V × Heap × Nat)
 | .mv x=>some (ag x,H,low)
 | .pick c a b=>(pR (ag c)).map fun t=>(if t then ag a else ag b,H,low)
 | .alloc z=>some (.ptr H.length 0,H++[.cells z],low)
 | .box x=>if bM (aE (ag x))then some (.ptr H.length 0,H++[.cells (aE (ag x))],low)else none
 | .build z parts=>(sJ z (parts.map fun p=>(p.1,p.2.1,ag p.2.2))).map fun cs=>(.agg cs,H,low)
 | .lit es z len parts ju=>match eV H low (parts.map fun p=>ag p.2)with
   |some (vs,H',low')=>match pT es (List.replicate len (lr z)) ((parts.zip vs).map fun(p,v)=>(p.1,v))with
    |some ds=>
     if ju then(if cg ds then some (if len=0 then .emp else .list es ds,H',low')else none)
     else if len=0 then some (.emp,H',low')else some (.ca H'.length es 0 len len,H'++[.row es ds false],low')
    |none=>none
   |none=>none
 | .load sh x=>(jR H sh (ag x)).map fun v=>(v,H,low)
 | .store n a x=>(jw H n (ag a) (ag x)).map fun(H',l)=>(.undef,H',min low l)
 | .nilCheck x=>match ag x with
   | .ptr l o=>some (.ptr l o,H,low)
   | .gW l es i f tag=>some (.gW l es i f tag,H,low)
   | .dH vs f=>some (.dH vs f,H,low)
   | .fn i a b=>some (.fn i a b,H,low)
   | _=>none
 | .bin op x y=>(eg op (ag x) (ag y)).map fun v=>(v,H,low)
 | .yK neg ks x y=>match ag x,ag y with
   | .agg a,.agg b=>(kx ks a b).map fun e=>(.bool (if neg then !e else e),H,low)
   | _,_=>none
 | .rF kind neg x y=>(qD kind (ag x) (ag y)).map fun e=>(.bool (if neg then !e else e),H,low)
 | .un op x=>(pS op (ag x)).map fun v=>(v,H,low)
 | .conv k x=>match ag x with
   | .int _ n=>some (.int k (k.wrap n),H,low)
   | _=>none
 | .Bm t x=>match fN H low (ag x)with
   |some (v,H',low')=>some (.iface t v,H',low')
   |none=>none
 | .ua i a b=>some (.fn i (a.map ag) (b.map ag),H,low)
 | .mkMap=>some (.map H.length,H++[.map []],low)
 | .mkSlice es z bytes l c=>match ag l,ag c with
   | .int _ n,.int _ m=>if n=m/\0<=n/\n*(bytes+1)<=2^40 then
     (if n=0 then some (.emp,H,low)else
       some (.ca H.length es 0 n.toNat n.toNat,H++[.row es (List.replicate n.toNat (lr z)) false],low))else none
   | _,_=>none
 | .qB x lo hi=>match ag x with
   | .str s=>match e1 ag 0 lo,e1 ag s.length hi with
     |some a,some b=>if a<=b/\b<=s.length then some (.str ((s.take b).drop a),H,low)else none
     | _,_=>none
   | _=>none
 | .sI es x lo hi mx=>match ag x with
   | .bX=>match e1 ag 0 lo,e1 ag 0 hi,e1 ag 0 mx with
     |some 0,some 0,some 0=>some (.bX,H,low)
     | _,_,_=>none
   | .emp=>match e1 ag 0 lo,e1 ag 0 hi,e1 ag 0 mx with
     |some 0,some 0,some 0=>some (.emp,H,low)
     | _,_,_=>none
   | .list bK ds=>match e1 ag 0 lo,e1 ag ds.length hi with
     |some a,some b=>if a<=b/\b<=ds.length/\bK=es then
       match mx with
       |none=>some (.list es ((ds.take b).drop a),H,low)
       |some m=>if ku (ag m)=some 0/\b=0 then some (.emp,H,low)else none
      else none
     | _,_=>none
   | .ca l bK off len tag=>match e1 ag 0 lo,e1 ag len hi with
     |some a,some b=>if a<=b/\b<=len/\bK=es then
       match mx with
       |none=>match H[l]? with
        |some (.row fb ds _)=>if ds.length=tag/\fb=es then(if a<b then some (.ca l es (off+a) (b-a) tag,H,low)else some (.list es [],H,low))else none
        | _=>none
       |some m=>if ku (ag m)=some 0/\b=0 then some (.emp,H,low)else none
      else none
     | _,_=>none
   | _=>none
 | .fieldAddr off x=>match ag x with
   | .ptr l o=>some (.ptr l (o+off),H,low)
   | .gW l es i f tag=>some (.gW l es i (f+off) tag,H,low)
   | .dH vs f=>some (.dH vs (f+off),H,low)
   | _=>none
 | .field off sh x=>match ag x with
   | .agg vs=>(iw vs off sh).map fun v=>(v,H,low)
   | _=>none
 | .indexAddr es x i=>match ku (ag i)with
   |some i=>match ag x with
    | .list bK ds=>if bK=es then(ds[i]?).map fun d=>(.dH (aE d) 0,H,low)else none
    | .ca l bK off len tag=>match H[l]? with
      |some (.row fb ds _)=>if bK=es/\fb=es/\ds.length=tag/\i<len/\off+len<=ds.length then some (.gW l es (off+i) 0 tag,H,low)else none
      | _=>none
    | _=>none
   |none=>none
 | .rG x i=>match ag x,ku (ag i)with
   | .str s,some i=>(s[i]?).map fun c=>(.int .u8 c.toNat,H,low)
   | _,_=>none
 | .lookup kind z x i ok=>match ag x with
   | .jt=>some (if ok then .aU [z,.bool false]else z,H,low)
   | .map l=>match H[l]? with
     |some (.map bf)=>match hK kind (ag i) bf with
      |some (some v)=>some (if ok then .aU [v,.bool true]else v,H,low)
      |some none=>some (if ok then .aU [z,.bool false]else z,H,low)
      |none=>none
     | _=>none
   | _=>none
 | .pQ kind m k v=>match fN H low (ag v)with
   |some (v',H',low')=>if uc v' then none else match ag m with
    | .map l=>match H'[l]? with
      |some (.map bf)=>match hK kind (ag k) bf with
       |some _=>some (.undef,H'.set l (.map (kU kind (ag k) v' bf)),min low' l)
       |none=>none
      | _=>none
    | _=>none
   |none=>none
 | .yL kind m k=>match ag m with
   | .jt=>some (.aU [],H,low)
   | .map l=>match H[l]? with
     |some (.map bf)=>match hK kind (ag k) bf with
      |some _=>some (.aU [],H.set l (.map (je kind (ag k) bf)),min low l)
      |none=>none
     | _=>none
   | _=>none
 | .DP a b=>match ag b with
   | .str s=>
     if s.isEmpty then
      match ag a with
      | .bX=>some (.bX,H,low)
      | .emp=>some (.emp,H,low)
      | .ca l bK off len tag=>match H[l]? with
        |some (.row _ ds _)=>if ds.length=tag then some (.ca l bK off len tag,H,low)else none
        | _=>none
      | _=>none
     else
      let xs:List V:=s.map fun c=>.int .u8 c.toNat
      match ag a with
      | .bX=>if xs.length*2<=2^40 then some (.ca H.length 1 0 xs.length xs.length,H++[.row 1 xs false],low)else none
      | .emp=>if xs.length*2<=2^40 then some (.ca H.length 1 0 xs.length xs.length,H++[.row 1 xs false],low)else none
      | .ca l bK off len tag=>match H[l]? with
        |some (.row fb ds false)=>
         if bK=1/\fb=1/\ds.length=tag/\off=0/\len=tag/\(len+xs.length)*2<=2^40 then
          some (.ca l 1 0 (len+xs.length) (len+xs.length),H.set l (.row 1 (ds++xs) false),min low l)
         else none
        | _=>none
      | _=>none
   | _=>none
 | .DQ a b=>match ag a,ag b with
   | .bX,.str s=>
     if s.isEmpty then some (.bX,H,low)
     else if s.length*2<=2^40 then some (.ca H.length 1 0 s.length s.length,H++[.qC s],low)else none
   | .ca l es off len tag,.str s=>match H[l]? with
     |some (.qC r)=>if s.isEmpty=false/\es=1/\off=0/\len=tag/\r.length=tag/\(len+s.length)*2<=2^40 then
       some (.ca l 1 0 (len+s.length) (len+s.length),H.set l (.qC (r++s)),min low l)else none
     | _=>none
   | _,_=>none
 | .u5 x=>match elems H 1 (ag x)with
   |some ds=>(bytesOf ds).map fun s=>(.str s,H,low)
   |none=>none
 | .extract x i=>match ag x with
   | .aU vs=>(vs[i]?).map fun v=>(v,H,low)
   | _=>none
 | .len kind x=>match kind,ag x with
   |0,.str s=>some (.int .i64 s.length,H,low)
   |1,.bX|1,.emp=>some (.int .i64 0,H,low)
   |1,.list _ ds=>some (.int .i64 ds.length,H,low)
   |1,.ca l es _ len tag=>match H[l]? with
    |some (.row bK ds _)=>if bK=es/\ds.length=tag then some (.int .i64 len,H,low)else none
    |some (.qC r)=>if r.length=tag then some (.int .i64 len,H,low)else none
    | _=>none
   |2,.jt=>some (.int .i64 0,H,low)
   |2,.map l=>match H[l]? with
    |some (.map bf)=>some (.int .i64 bf.length,H,low)
    | _=>none
   | _,_=>none
 | .xe es bytes a b=>match elems H es (ag b)with
   |some xs=>if cg xs=false then none else match ag a with
    | .bX=>if xs.isEmpty then some (.bX,H,low)else if bM (xs.flatMap aE)=true/\xs.length*(bytes+1)<=2^40 then some (.list es xs,H,low)else none
    | .emp=>if xs.isEmpty then some (.emp,H,low)else if bM (xs.flatMap aE)=true/\xs.length*(bytes+1)<=2^40 then some (.list es xs,H,low)else none
    | _=>none
   |none=>none
 | .append es bytes a b=>match elems H es (ag b)with
   |some xs=>match eV H low xs with
    |some (xs,H',low')=>
     if xs.isEmpty then
      match ag a with
      | .bX=>some (.bX,H',low')
      | .emp=>some (.emp,H',low')
      | .list bK ds=>some (.list bK ds,H',low')
      | .ca l bK off len tag=>match H'[l]? with
        |some (.row _ ds _)=>if ds.length=tag then some (.ca l bK off len tag,H',low')else none
        | _=>none
      | _=>none
     else if bM (xs.flatMap aE)=false then none else
     match ag a with
     | .bX=>if xs.length*(bytes+1)<=2^40 then
       some (.ca H'.length es 0 xs.length xs.length,H'++[.row es xs false],low')else none
     | .emp=>if xs.length*(bytes+1)<=2^40 then
       some (.ca H'.length es 0 xs.length xs.length,H'++[.row es xs false],low')else none
     | .ca l bK off len tag=>match H'[l]? with
       |some (.row fb ds false)=>
        if bK=es/\fb=es/\ds.length=tag/\off=0/\len=tag/\(len+xs.length)*(bytes+1)<=2^40 then
         some (.ca l es 0 (len+xs.length) (len+xs.length),H'.set l (.row es (ds++xs) false),min low' l)
        else none
       | _=>none
     | _=>none
    |none=>none
   |none=>none
 | .u6 mx x y=>match ag x,ag y with
   | .int k a,.int bz b=>if k=bz then some (.int k (if mx then max a b else min a b),H,low)else none
   | _,_=>none
 | .copy es a b=>match ag a,elems H es (ag b)with
   | .bX,some _| .emp,some _=>some (.int .i64 0,H,low)
   | .ca l bK off len tag,some xs=>match H[l]? with
     |some (.row fb ds false)=>
      if bK=es/\fb=es/\ds.length=tag/\off+len<=ds.length/\mc (xs.flatMap aE)=true then
       some (.int .i64 ((min len xs.length:Nat):Int),H.set l (.row es (ds.take off++xs.take len++ds.drop (off+min len xs.length)) false),min low l)
      else none
     | _=>none
   | _,_=>none
 | .call _ _ _=>none
 | .fail=>none
abbrev cP:=V->List V->Heap->Option (V × Heap × Nat)
def gu (aC au:Env):Option (ai × Bool)->Option Bool
 |none=>some true
 |some (t,b)=>match t.ag aC au with
  | .bool c=>some (c==b)
  | .aU []=>some false
  | _=>none
def av.put (st:av):Option (Nat × Bool)->V->av
 |none,_=>st
 |some (t,true),v=>{st with au:=dw st.au t v}
 |some (t,false),v=>{st with aC:=(t,v)::st.aC}
def b3 (call:cP)(ag:ai->V)(H:Heap)(low:Nat):cN->Option (V × Heap × Nat)
 | .call true f args=>match call (ag f) (args.map ag) H with
   |some (v,H',l)=>some (v,H',min low l)
   |none=>none
 | .call false f args=>match eV H low (args.map ag)with
   |some (vs,H',low')=>match call (ag f) vs H' with
    |some (v,HX,l)=>if flat v=true/\H'.length<=l then some (v,H,low)else some (v,HX,min low' l)
    |none=>none
   |none=>none
 |op=>step ag H low op
def ei (H H':Heap)(low:Nat):Bool:=decide (low<H.length)||H'.length != H.length
def cY (call:cP):List bI->av->List Bool->Option (av × List Bool)
 |[],st,wr=>some (st,wr.reverse)
 |o::r,st,wr=>
  match gu st.aC st.au o.guard with
  |some true=>match b3 call (ai.ag st.aC st.au) st.H st.H.length o.op with
   |some (v,H',low')=>cY call r ({st with H:=H',low:=min st.low low'}.put o.dst v) (ei st.H H' low'::wr)
   |none=>none
  |some false=>cY call r (st.put o.dst (.aU [])) (false::wr)
  |none=>none
def gk:cN->Bool
 | .mv _| .pick .. | .build .. | .nilCheck _| .bin .. | .yK .. | .rF .. | .un .. | .conv .. | .ua .. | .qB .. | .fieldAddr .. | .field .. | .rG .. | .extract .. | .u6 .. =>false
 | _=>true
def cN.operands:cN->List ai
 | .mv x| .box x| .load _ x| .nilCheck x| .un _ x| .conv _ x| .Bm _ x| .fieldAddr _ x| .field _ _ x| .extract x _| .len _ x=>[x]
 | .pick a b c=>[a,b,c]
 | .alloc _| .mkMap| .fail=>[]
 | .build _ parts=>parts.map (·.2.2)
 | .lit _ _ _ parts _=>parts.map (·.2)
 | .store _ a x| .bin _ a x| .yK _ _ a x| .rF _ _ a x| .mkSlice _ _ _ a x| .indexAddr _ a x| .rG a x| .lookup _ _ a x _| .append _ _ a x| .xe _ _ a x| .u6 _ a x| .copy _ a x=>[a,x]
 | .ua _ a b=>a++b
 | .qB x lo hi=>x::(lo.toList++hi.toList)
 | .sI _ x lo hi mx=>x::(lo.toList++hi.toList++mx.toList)
 | .pQ _ m k v=>[m,k,v]
 | .yL _ m k=>[m,k]
 | .DP a b=>[a,b]
 | .DQ a b=>[a,b]
 | .u5 x=>[x]
 | .call _ f args=>f::args
def xg (dT:List Nat)(ops:List bI)(wr:List Bool):Bool:=
 if wr.any id then
  (wr.zipIdx).all fun(w,i)=>!w||(ops.zipIdx).all fun(o,j)=>
    !gk o.op||i==j||(if j<i then(dT.getD i 0).testBit j else(dT.getD j 0).testBit i)
 else true
def xh (ops:List bI):Bool:=ops.all fun o=>!gk o.op||match o.op,o.guard with
 | .mkSlice ..,none=>true
 | _,_=>false
def rH (dT:List Nat)(ops:List bI)(wr:List Bool):Bool:=xg dT ops wr||xh ops
mutual
def dL:V->V->Bool
 | .bool a,.bool b=>a==b
 | .int k n,.int bz m=>decide (k=bz)&&decide (n=m)
 | .str s,.str ao=>decide (s=ao)
 | .bX,.bX| .emp,.emp| .jd,.jd| .jt,.jt| .kt,.kt| .jQ,.jQ| .undef,.undef=>true
 | .list e ds,.list e' ds'=>decide (e=e')&&nC ds ds'
 | .agg a,.agg b| .aU a,.aU b=>nC a b
 | .ptr l o,.ptr fc o'=>decide (l=fc)&&decide (o=o')
 | .gW a b c d e,.gW a8 eA c' d' e'=>decide (a=a8)&&(decide (b=eA)&&(decide (c=c')&&(decide (d=d')&&decide (e=e'))))
 | .dH vs f,.dH vs' me=>nC vs vs'&&decide (f=me)
 | .ca a b c d e,.ca a8 eA c' d' e'=>decide (a=a8)&&(decide (b=eA)&&(decide (c=c')&&(decide (d=d')&&decide (e=e'))))
 | .map l,.map fc| .yield l,.yield fc=>decide (l=fc)
 | .fn i a b,.fn Bn a8 eA=>decide (i=Bn)&&(nC a a8&&nC b eA)
 | .iface t v,.iface ej v'=>decide (t=ej)&&dL v v'
 | _,_=>false
def nC:List V->List V->Bool
 |[],[]=>true
 |a::r,b::s=>dL a b&&nC r s
 | _,_=>false
end
def fm (call:cP):List bI->av->Option (List av)
 |[],st=>some [st]
 |o::r,st=>
  match gu st.aC st.au o.guard with
  |some true=>match b3 call (ai.ag st.aC st.au) st.H st.H.length o.op with
   |some (v,H',low')=>(fm call r ({st with H:=H',low:=min st.low low'}.put o.dst v)).map (st:: ·)
   |none=>none
  |some false=>(fm call r (st.put o.dst (.aU []))).map (st:: ·)
  |none=>none
def pU (dT:List Nat)(i j:Nat):Bool:=if j<i then(dT.getD i 0).testBit j else(dT.getD j 0).testBit i
def jx (call:cP)(q:bI × av × Heap):Bool:=
 match gu q.2.1.aC q.2.1.au q.1.guard with
 |some false=>true
 |some true=>match b3 call (ai.ag q.2.1.aC q.2.1.au) q.2.1.H q.2.1.H.length q.1.op with
  |some (v,_,_)=>match b3 call (ai.ag q.2.1.aC q.2.1.au) q.2.2 q.2.2.length q.1.op with
   |some (v',H',low')=>dL v v'&&!ei q.2.2 H' low'
   |none=>false
  |none=>false
 |none=>false
def HY (dT:List Nat)(wr:List Bool):Bool:=
 wr.zipIdx.all fun(w,i)=>!w||wr.zipIdx.all fun(w',j)=>!w'||i==j||pU dT i j
def HZ (dT:List Nat)(ops:List bI)(wr:List Bool)(cb:List av):List (bI × av × Heap):=
 ops.zipIdx.flatMap fun(o,j)=>if !gk o.op||wr.getD j false then[]else
  cb.zipIdx.flatMap fun(Bo,k)=>if k==j||(k != 0&&!wr.getD (k-1) false)||wr.zipIdx.any (fun(w,i)=>w&&(i != j&&(pU dT i j&&(decide (i<j) != decide (i<k)))))then[]else
    match cb[j]? with
    |some H3=>[(o,H3,Bo.H)]
    |none=>[]
def rI (call:cP)(dT:List Nat)(ops:List bI)(wr:List Bool)(st:av):Bool:=
 match fm call ops st with
 |some cb=>HY dT wr&&(HZ dT ops wr cb).all (jx call)
 |none=>false
def DR (o:bI):Bool:=match o.op,o.guard with
 | .alloc _,none=>true
 | _,_=>false
def kV (ops:List bI):Nat:=(ops.takeWhile fun o=>!DR o).length
def pV (ops:List bI):Nat:=kV ops+((ops.drop (kV ops)).takeWhile DR).length
def xi (dT:List Nat)(ops:List bI)(wr:List Bool):Bool:=
 let p:=kV ops;let q:=pV ops
 (wr.take p).all (!·)&&((wr.zipIdx).all fun(w,i)=>!w||Nat.blt i q||(ops.zipIdx).all fun(o,j)=>!gk o.op||Nat.blt j p||i==j||pU dT i j)&&
   (ops.zipIdx).all fun(o,j)=>!gk o.op||Nat.blt j q||(List.range' p (q-p)).all fun i=>pU dT i j
def Bp (ops:List bI)(cb:List av):List (bI × av × Heap):=(cb.drop (pV ops)).flatMap fun T=>
 ((ops.zip cb).take (kV ops)).filterMap fun(o,s)=>if gk o.op then some (o,s,T.H)else none
def o2 (call:cP)(dT:List Nat)(ops:List bI)(wr:List Bool)(st:av):Bool:=
 rI call dT ops wr st||match fm call ops st with
  |some cb=>xi dT ops wr&&(Bp ops cb).all (jx call)
  |none=>false
def iter (f:av->Option (X × av)):Nat->av->Option (X × av)
 |0,_=>none
 |n+1,st=>match f st with
  |some (.normal,aV)=>iter f n aV
  |r=>r
def Bq:V->Bool
 | .fn .. =>true
 | _=>false
def Mv (ok:List Nat):V->Bool
 | .fn i [] _=>ok.contains i
 | _=>false
def DS (H:Heap):Option Nat->Bool
 |none=>true
 |some l=>match H[l]? with
  |some (.loop ..)=>true
  | _=>false
def av.closed (st:av):av:=match Nat.ble st.low 0 with
 |true=>{st with aC:=[]}
 |false=>{st with aC:=[]}
theorem av.fo (st:av):st.closed={st with aC:=[]}:=by
 unfold av.closed;split<;>rfl
def exec (call:cP)(n:Nat):cm->av->Option (X × av)
 | .skip,st=>some (.normal,st)
 | .region ops dT,st=>match cY call ops {st with aC:=[]} []with
   |some (aV,wr)=>match dT with
    |none=>some (.normal,aV.closed)
    |some b=>if rH b ops wr||o2 call b ops wr {st with aC:=[]}then some (.normal,aV.closed)else none
   |none=>none
 | .yM ops ok f,st=>match cY call ops {st with aC:=[]} []with
   |some (aV,_)=>if(st.ro.isNone&&Mv ok (f.ag aV.aC aV.au))=true then some (.normal,aV.closed)else none
   |none=>none
 | .seq a b,st=>match exec call n a st with
   |some (.normal,aV)=>exec call n b aV
   |r=>r
 | .cond c t e,st=>match c.ag st.aC st.au with
   | .bool true=>exec call n t st
   | .bool false=>exec call n e st
   | _=>none
 | .block id c,st=>match exec call n c st with
   |some (.exit ud,aV)=>if ud=id then some (.normal,aV)else some (.exit ud,aV)
   |r=>r
 | .loop c,st=>iter (exec call n c) n st
 | .rangeFunc f params assign body,st=>
   let l:=st.H.length
   if(DS st.H st.ro&&Bq (f.ag st.aC st.au))=false then none else
   match call (f.ag st.aC st.au) [.yield l] (st.H++[.loop .ready .normal st.au params assign body])with
   |some (_,H',low')=>match H'[l]? with
    |some (.loop ls ub _ _ _ _)=>if ls=.busy then none else some (ub,{st with H:=H'.set l .gone,low:=min st.low low'})
    | _=>none
   |none=>none
 | .exit id,st=>some (.exit id,st)
 | .ret,st=>some (.ret,st)
 | .fail,_=>none
def ke (au:Env)(H:Heap):mR->Option V
 | .tmp t=>some (bA au t)
 | .cell a sh=>jR H sh (bA au a)
def gH (env:Env)(H:Heap):List mR->Option (List V)
 |[]=>some []
 |r::rs=>match ke env H r with
  |some v=>match gH env H rs with
   |some vs=>some (v::vs)
   |none=>none
  |none=>none
def fW:Nat->List V->Env
 | _,[]=>[]
 |i,v::r=>(i,v)::fW (i+1) r
def finish (fresh:Bool)(H0:Heap)(v:V)(H:Heap)(low:Nat):Option (V × Heap × Nat):=
 match fresh,v with
 |true,.ca l es off len tag=>match H[l]? with
  |some (.row bK ds false)=>
   if H0.length<=low/\H0.length<=l/\bK=es/\ds.length=tag/\olds H0.length ds=true then some (.ca H0.length es off len tag,H0++[.row es ds false],H0.length)else if l<H0.length then some (.ca l es off len tag,H,low)else none
  | _=>none
 | _,v=>match fN H low v with
   |some (v',H',low')=>if H0.length<=low'/\old H0.length v'=true then some (v',H0,H0.length)else some (v',H',low')
   |none=>none
abbrev sK:=List V->Heap->Option (V × List (Nat × bU) × List bU)
inductive bV where
 |code (f:jv)
 |ext (spec:List V->Option V)
 |o3 (spec:sK)
 deriving Inhabited
def xj (H:Heap)(l:List (Nat × bU)):Heap:=l.foldl (fun H p=>H.set p.1 p.2) H
def xk (n:Nat)(l:List (Nat × bU)):Nat:=l.foldl (fun n p=>min n p.1) n
def u9 (spec:sK)(args:List V)(H:Heap):Option (V × Heap × Nat):=(spec args H).map fun r=>(r.1,xj H r.2.1++r.2.2,xk H.length r.2.1)
def iP (ex:cm->av->Option (X × av))(f:jv)(args:List V)(H:Heap):Option (V × Heap × Nat):=
 if args.length<=f.yN then
  match ex f.body {aC:=[],au:=fW 0 args,H,low:=H.length}with
  |some (.normal,st)|some (.ret,st)=>match gH st.au st.H f.results with
   |some [v]=>finish f.fresh H v st.H st.low
   |some vs=>finish f.fresh H (.aU vs) st.H st.low
   |none=>none
  | _=>none
 else none
def pW (ex:cm->av->Option (X × av))(l:Nat)(args:List V)(H:Heap):Option (V × Heap × Nat):=
 match H[l]? with
 |some (.loop .ready _ env params assign body)=>
  if args.length=params.length then
   match ex assign {aC:=[],au:=(params.zip args).foldl (fun e (t,v)=>dw e t v) env,H,low:=H.length,ro:=some l}with
   |some (.normal,st)=>match st.H[l]? with
    |some (.loop .ready p S8 ps aQ ct)=>match ex body {st with H:=st.H.set l (.loop .busy p S8 ps aQ ct),low:=min st.low l}with
     |some (x,aV)=>match aV.H[l]? with
      |some (.loop _ _ afz S9 sL Ta)=>
       some (.bool (x=.normal),aV.H.set l (.loop (if x=.normal then .ready else .done) x afz S9 sL Ta),min aV.low l)
      | _=>none
     |none=>none
    | _=>none
   | _=>none
  else none
 | _=>none
def qE (aa:Nat->Option bV)(call:cP)(n:Nat):cP:=fun f args H=>
 match f with
 | .fn i first caps=>match aa i with
   |some (.code fn)=>iP (exec call n) fn (first++args++caps) H
   |some (.ext spec)=>if cg (first++args++caps)then(spec (first++args++caps)).map fun v=>(v,H,H.length)else none
   |some (.o3 spec)=>u9 spec (first++args++caps) H
   |none=>none
 | .yield l=>pW (exec call n) l args H
 | _=>none
def bD (aa:Nat->Option bV):Nat->cP
 |0=>fun _ _ _=>none
 |n+1=>qE aa (bD aa n) n
end Go.Abs
namespace Go.Abs
open Go
mutual
def mT:Value->Option V
 | .bool b=>some (.bool b)
 | .int k n=>some (.int k n)
 | .string s=>some (.str s.data.toList)
 | .pointer none=>some .jd
 | .slice none 0 0=>some .bX
 | .map none=>some .jt
 | .nilFunc=>some .kt
 | .nilIface=>some .jQ
 | .agg ⟨vs⟩=>(Br vs).map .agg
 | .tuple ⟨[]⟩=>some .undef
 | _=>none
def Br:List Value->Option (List V)
 |[]=>some []
 |v::r=>match mT v with
  |some v'=>if uc v' then none else(Br r).map (v':: ·)
  |none=>none
end
def dF{α β:Type}(f:α->Option β):List α->Option (List β)
 |[]=>some []
 |a::r=>match f a with
  |some b=>match dF f r with
   |some aH=>some (b::aH)
   |none=>none
  |none=>none
structure Ctx where
 P:Program
 DT:Nat->Option Nat
 ju:String->Bool:=fun _=>true
 Mw:String->Bool:=fun _=>false
 raw:Nat->Bool:=fun _=>false
 e2:Nat->Option Obj:=fun _=>none
 yP:List Nat:=[]
 yQ:Option Nat:=none
 xl:Nat:=0
 Tb:String->Bool:=fun _=>false
namespace Ctx
variable (C:Ctx)
def sizeOf (t:Nat):Option Nat:=(C.P.info? t).map (·.size)
def zeroCells (t:Nat):Option (List V):=match C.P.info? t with
 |some i=>match i.zero with
  |some z=>match Br z.cells.toList with
   |some vs=>if bM vs then some vs else none
   |none=>none
  |none=>none
 |none=>none
def mark (t:Nat):List V->List V
 |[.jd,.bX]=>bif C.yQ==some t then[.undef,.bX]else[.jd,.bX]
 |z=>z
def zeroV (t:Nat):Option V:=match C.P.info? t with
 |some i=>match i.zero with
  |some z=>mT z
  |none=>none
 |none=>none
def shapeOf (t:Nat):Option (Option Nat):=match C.P.underlying t with
 |some (.struct _)|some (.array _ _)=>(C.sizeOf t).map some
 |some _=>some none
 |none=>none
def b5 (vars:List Nat):Operand->Option ai
 | .tmp t=>some (if vars.contains t then .var t else .tmp t)
 | .const v=>(mT v).map .const
 | .func f=>(C.DT f).map .func
 | .global _=>none
def pX (vars:List Nat):Option Operand->Option (Option ai)
 |none=>some none
 |some x=>(C.b5 vars x).map some
def jS (t:Nat):Option Nat:=match C.P.underlying t with
 |some (.int _)=>some 0
 |some .string=>some 1
 |some .bool=>some 2
 | _=>none
def DU (i:Nat):List Field->Option (List Nat)
 |[]=>some []
 |f::fs=>match C.jS f.type with
  |some k=>if f.name != "_" &&f.offset==i then(DU (i+1) fs).map (k:: ·)else none
  |none=>none
def Bs (i:Nat):List Field->Option (List Nat)
 |[]=>some []
 |f::fs=>match C.jS f.type with
  |some k=>if f.name != "_" &&f.offset==i then(Bs (i+1) fs).map (k:: ·)else none
  |none=>match C.P.underlying f.type with
   |some (.struct gs)=>match C.DU 0 gs.toList with
    |some ks=>if f.name != "_" &&f.offset==i&&!C.P.stoodInHeld f.type&&C.sizeOf f.type==some ks.length then(Bs (i+ks.length) fs).map (ks++ ·)else none
    |none=>none
   | _=>none
def structEq (t:Nat):Option (List Nat):=match C.P.underlying t with
 |some (.struct fs)=>if !C.P.stoodInHeld t&&!C.P.eqGuardType C.P.depth t then C.Bs 0 fs.toList else none
 | _=>none
def H4:ai->Bool
 | .const .jQ=>true
 | _=>false
def yR (d:TypeDesc)(x y:ai)(plain:cN)(neg:Bool):Option cN:=
 match d with
 | .int _| .string=>some plain
 | .pointer _=>some (.rF 0 neg x y)
 | .slice _=>some (.rF 1 neg x y)
 | .func .. =>some (.rF 2 neg x y)
 | .interface _=>if H4 y then some (.rF 3 neg x y)else none
 | .bool=>some (.rF 4 neg x y)
 | _=>none
def builtin (vars:List Nat)(pos:String)(b:Builtin)(args:Array Operand)(ts:Array TypeId):Option cN:=
 match b,args.toList,ts.toList with
 | .len,[x],[t]=>match C.P.underlying t with
   |some .string=>(C.b5 vars x).map (.len 0)
   |some (.slice _)=>(C.b5 vars x).map (.len 1)
   |some (.map _ _)=>(C.b5 vars x).map (.len 2)
   | _=>none
 | .append,[a,b],[t,u]=>match C.P.underlying t,C.P.underlying u with
   |some (.slice e),some (.slice _)=>match C.P.info? e,C.b5 vars a,C.b5 vars b with
    |some i,some a,some b=>if i.size=0||i.zero.map (·.cells.size) != some i.size then none else some (if C.Mw pos then .xe i.size i.bytes a b else .append i.size i.bytes a b)
    | _,_,_=>none
   |some (.slice e),some .string=>match C.P.info? e,C.b5 vars a,C.b5 vars b with
    |some i,some a,some b=>if i.size=1&&i.bytes==1&&i.zero.map (·.cells.size)==some 1 then some (if C.Tb pos&&e==C.xl then .DQ a b else .DP a b)else none
    | _,_,_=>none
   | _,_=>none
 | .delete,[m,k],[t,_]=>match C.P.underlying t,C.b5 vars m,C.b5 vars k with
   |some (.map eB _),some m,some k=>(C.jS eB).map fun bP=>.yL bP m k
   | _,_,_=>none
 | .recover,[],_=>none
 | .max,[a,b],_=>match C.b5 vars a,C.b5 vars b with
   |some a,some b=>some (.u6 true a b)
   | _,_=>none
 | .copy,[a,b],[t,u]=>match C.P.underlying t,C.P.underlying u with
   |some (.slice e),some (.slice _)=>match C.sizeOf e,C.b5 vars a,C.b5 vars b with
    |some n,some a,some b=>if n=0 then none else some (.copy n a b)
    | _,_,_=>none
   | _,_=>none
 | .min,[a,b],_=>match C.b5 vars a,C.b5 vars b with
   |some a,some b=>some (.u6 false a b)
   | _,_=>none
 | _,_,_=>none
def cO (vars:List Nat)(pos:String):Op->Option cN
 | .move x| .assign x=>(C.b5 vars x).map .mv
 | .pick c a b=>match C.b5 vars c,C.b5 vars a,C.b5 vars b with
   |some c,some a,some b=>some (.pick c a b)
   | _,_,_=>none
 | .alloc t=>(C.zeroCells t).map fun z=>.alloc (C.mark t z)
 | .box _ x=>(C.b5 vars x).map .box
 | .build t parts=>match C.P.underlying t,C.zeroCells t with
   |some (.struct fs),some z=>if fs.toList.any (fun f=>(C.sizeOf f.type).isNone)then none else(dF (fun(p:Nat × Operand)=>match fs[p.1]? with
     |some f=>match C.sizeOf f.type,C.b5 vars p.2 with
      |some n,some x=>some (f.offset,n,x)
      | _,_=>none
     |none=>none) parts.toList).map (.build z)
   |some (.array _ e),some z=>match C.sizeOf e with
    |some n=>(dF (fun(p:Nat × Operand)=>match C.b5 vars p.2 with
      |some x=>some (p.1*n,n,x)
      |none=>none) parts.toList).map (.build z)
    |none=>none
   | _,_=>none
 | .buildSlice t len parts=>match C.P.underlying t with
   |some (.slice e)=>match C.sizeOf e,C.zeroCells e,dF (fun(p:Nat × Operand)=>(C.b5 vars p.2).map fun x=>(p.1,x)) parts.toList with
    |some n,some z,some ps=>if n=0\/len*n>2^24\/z.length≠n then none else some (.lit n z len ps (match C.P.underlying e with|some (.func ..)=>false| _=>C.ju pos))
    | _,_,_=>none
   | _=>none
 | .load t a=>match C.shapeOf t,C.b5 vars a with
   |some sh,some a=>some (.load sh a)
   | _,_=>none
 | .store t a x=>match C.sizeOf t,C.b5 vars a,C.b5 vars x with
   |some n,some a,some x=>some (.store n a x)
   | _,_,_=>none
 | .nilCheck x=>(C.b5 vars x).map .nilCheck
 | .binOp o t x y _=>match C.b5 vars x,C.b5 vars y with
   |some x,some y=>match o,C.P.underlying t with
    | .eql,some (.struct _)=>(C.structEq t).map fun n=>.yK false n x y
    | .neq,some (.struct _)=>(C.structEq t).map fun n=>.yK true n x y
    | .eql,some d=>yR d x y (.bin .eql x y) false
    | .neq,some d=>yR d x y (.bin .neq x y) true
    | .eql,none| .neq,none=>none
    | _,_=>some (.bin o x y)
   | _,_=>none
 | .unOp o _ x=>(C.b5 vars x).map (.un o)
 | .convert s d x=>match C.P.underlying s,C.P.underlying d,C.b5 vars x with
   |some (.int _),some (.int k),some x=>some (.conv k x)
   |some (.slice e),some .string,some x=>match C.P.underlying e with
    |some (.int .u8)=>some (.u5 x)
    | _=>none
   | _,_,_=>none
 | .makeInterface t x=>match C.P.underlying t,C.b5 vars x with
   |some (.interface _),_=>none
   |some _,some x=>some (.Bm t x)
   | _,_=>none
 | .makeFunc (.func f) a b=>match C.DT f,dF (C.b5 vars) a.toList,dF (C.b5 vars) b.toList with
   |some i,some a,some b=>some (.ua i a b)
   | _,_,_=>none
 | .makeMap _ none=>some .mkMap
 | .makeSlice t l c=>match C.P.underlying t with
   |some (.slice e)=>match C.P.info? e,C.zeroCells e,C.b5 vars l,C.b5 vars c with
    |some i,some z,some l,some c=>if i.size=0\/z.length≠i.size then none else some (.mkSlice i.size z i.bytes l c)
    | _,_,_,_=>none
   | _=>none
 | .slice t x lo hi mx=>match C.P.underlying t,C.b5 vars x,C.pX vars lo,C.pX vars hi,C.pX vars mx with
   |some .string,some x,some lo,some hi,some none=>some (.qB x lo hi)
   |some (.slice e),some x,some lo,some hi,some mx=>match C.sizeOf e with
    |some n=>if n=0||(hi.isNone&&mx.isSome)then none else some (.sI n x lo hi mx)
    |none=>none
   | _,_,_,_,_=>none
 | .fieldAddr s x f=>match C.P.underlying s,C.b5 vars x with
   |some (.struct fs),some x=>match fs[f]? with
    |some aY=>match C.sizeOf aY.type with
     |some n=>if n=0 then none else some (.fieldAddr aY.offset x)
     |none=>none
    |none=>none
   | _,_=>none
 | .field s x f=>match C.P.underlying s,C.b5 vars x with
   |some (.struct fs),some x=>match fs[f]? with
    |some aY=>(C.shapeOf aY.type).map fun sh=>.field aY.offset sh x
    |none=>none
   | _,_=>none
 | .indexAddr t x i=>match C.P.underlying t,C.b5 vars x,C.b5 vars i with
   |some (.slice e),some x,some i=>match C.sizeOf e with
    |some n=>if n=0 then none else some (.indexAddr n x i)
    |none=>none
   | _,_,_=>none
 | .index t x i=>match C.P.underlying t,C.b5 vars x,C.b5 vars i with
   |some .string,some x,some i=>some (.rG x i)
   | _,_,_=>none
 | .lookup t x i ok=>match C.P.underlying t,C.b5 vars x,C.b5 vars i with
   |some (.map k e),some x,some i=>match C.jS k,C.zeroV e with
    |some bP,some z=>if uc z then none else some (.lookup bP z x i ok)
    | _,_=>none
   | _,_,_=>none
 | .mapUpdate t m k v=>match C.P.underlying t,C.b5 vars m,C.b5 vars k,C.b5 vars v with
   |some (.map eB _),some m,some k,some v=>(C.jS eB).map fun bP=>.pQ bP m k v
   | _,_,_,_=>none
 | .insert t m k v=>match C.P.underlying t,C.b5 vars m,C.b5 vars k,C.b5 vars v with
   |some (.map eB _),some m,some k,some v=>(C.jS eB).map fun bP=>.pQ bP m k v
   | _,_,_,_=>none
 | .extract x i=>(C.b5 vars x).map fun x=>.extract x i
 | .call {callee:=.value f,args,.. }=>match C.b5 vars f,dF (C.b5 vars) args.toList with
   |some f,some aQ=>some (.call (match f with| .func i=>C.raw i| _=>false) f aQ)
   | _,_=>none
 | .call {callee:=.builtin b,args,argTypes}=>C.builtin vars pos b args argTypes
 | _=>none
def op (vars:List Nat)(pos:String)(o:Op):cN:=(C.cO vars pos o).getD .fail
def guard (vars:List Nat)(ops:Array Oper):Option (Nat × Bool)->Option (Option (ai × Bool))
 |none=>some none
 |some (j,want)=>match(ops[j]?).bind (·.dst)with
  |some d=>some (some (if vars.contains d then .var d else .tmp d,want))
  |none=>none
def oper (vars:List Nat)(n:Nat)(ops:Array Oper)(o:Oper):Option bI:=
 match guard vars ops o.guard with
 |some g=>match o.dst with
  |none=>some {dst:=none,op:=C.op vars o.pos o.op,guard:=g}
  |some d=>if d<n then some {dst:=some (d,vars.contains d),op:=C.op vars o.pos o.op,guard:=g}else none
 |none=>none
def yS (ops:Array Oper):Bool:=
 ops.toList.zipIdx.all fun(o,i)=>o.after.all fun e=>match e.ground with| .gcOnly _=>true| _=>decide (e.on<i)
def tmpsOf (xs:Array Operand):List Nat:=xs.toList.filterMap fun| .tmp t=>some t| _=>none
def fO (ops:Array Oper)(o:Oper):List Nat:=
 tmpsOf o.op.operands++(match o.guard with|some (j,_)=>((ops[j]?).bind (·.dst)).toList|none=>[])
def yT (ops:Array Oper):Bool:=
 let b:=CheckFast.beforeF ops
 ops.toList.zipIdx.all fun(o,j)=>ops.toList.zipIdx.all fun(p,i)=>
  match p.dst with
  |none=>true
  |some d=>i==j||!(o.dst==some d||(fO ops o).contains d)||(b.getD (max i j) 0).testBit (min i j)
def xm (ops:Array Oper)(o:Oper)(a:bI):Bool:=
 a.op.operands.all fun
   | .tmp t| .var t=>(fO ops o).contains t
   | _=>true
def Mx (vars:List Nat)(n:Nat)(ops:Array Oper):Option cm:=match C.yP,ops.toList.getLast? with
 |[],_=>none
 | _,some hL=>match hL.op,hL.guard with
   | .defer {callee:=.value f,args,.. },none=>match args.toList,dF (C.oper vars n ops) ops.toList.dropLast,C.b5 vars f with
     |[],some bF,some mf=>if hL.dst.isNone then some (.yM bF C.yP mf)else none
     | _,_,_=>none
   | _,_=>none
 | _,none=>none
def code (vars:List Nat)(n:Nat):Code->Option cm
 | .skip=>some .skip
 | .region _ ops draw=>match(if draw then none else C.Mx vars n ops)with
   |some r=>some r
   |none=>match dF (C.oper vars n ops) ops.toList with
    |some bF=>if !draw then some (.region bF none)
    else if yS ops&&yT ops&&(ops.toList.zip bF).all (fun(o,a)=>xm ops o a)then some (.region bF (some (CheckFast.beforeF ops).toList))else none
    |none=>none
 | .seq a b=>match code vars n a,code vars n b with
   |some a,some b=>some (.seq a b)
   | _,_=>none
 | .cond c t e=>match C.b5 vars c,code vars n t,code vars n e with
   |some c,some t,some e=>some (.cond c t e)
   | _,_,_=>none
 | .block id c=>(code vars n c).map (.block id)
 | .loop c=>(code vars n c).map .loop
 | .rangeFunc f ps a b=>match C.b5 vars f,code vars n a,code vars n b with
   |some f,some a,some b=>if ps.all (fun t=>decide (t<n)&&vars.contains t)then some (.rangeFunc f ps.toList a b)else none
   | _,_,_=>none
 | .exit id=>some (.exit id)
 | .ret=>some .ret
 | _=>some .fail
def xn:Code->List Nat
 | .region _ ops _=>(ops.toList.foldl (fun(acc:List Nat × List Nat) o=>
  let g:=match o.guard with|some (j,_)=>((ops[j]?).bind (·.dst)).toList|none=>[]
  let reads:=(g++tmpsOf o.op.operands).filter fun t=>!acc.2.contains t
  (acc.1++reads,o.dst.toList++acc.2)) ([],[])).1
 | .seq a b=>xn a++xn b
 | .cond c t e=>tmpsOf #[c]++xn t++xn e
 | .block _ c| .loop c=>xn c
 | .rangeFunc f ps a b=>tmpsOf #[f]++ps.toList++xn a++xn b
 | _=>[]
def res:ResultVar->Option mR
 | .tmp t=>some (.tmp t)
 | .cell a t=>(C.shapeOf t).map (.cell a)
def rJ:List ResultVar->List Nat
 |[]=>[]
 | .tmp t::r=>t::rJ r
 | .cell a _::r=>a::rJ r
def varsOf (f:Func):List Nat:=
 ((List.range (f.params.size+f.nfree)++rJ f.results.toList++(match f.body with|some c=>xn c|none=>[])).eraseDups)
def func (f:Func)(fresh:Bool):Option jv:=
 match f.body with
 |some c=>match C.code (varsOf f) f.ntmps c,dF C.res f.results.toList with
  |some b,some rs=>if f.name== "runtime.NumGoroutine" then none else some {yN:=f.ntmps,body:=b,results:=rs,fresh}
  | _,_=>none
 |none=>none
end Ctx
end Go.Abs
