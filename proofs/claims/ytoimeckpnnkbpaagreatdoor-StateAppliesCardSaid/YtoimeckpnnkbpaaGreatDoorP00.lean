/- Texts of this claim, joined and written short by a program. -/
import Derived.Calls
import Derived.CheckFast
set_option linter.unusedVariables false
set_option linter.unusedSimpArgs false
set_option linter.unusedSectionVars false
namespace Go.Abs
set_option linter.defProp false
def az := @Option.some.injEq
def cg := @Option.bind_some
def ct := @Option.map_eq_some_iff
def aK := @Nat.le_refl
def bt := @Prod.mk.injEq
def b8 := @Bool.and_eq_true
def dZ := @Option.bind_eq_some_iff
def pY := @List.getElem?_eq_some_iff
def gE := @List.getElem?_append_left
def e8 := @Nat.eq_of_beq_eq_true
def hz := @List.mem_of_getElem?
def hX := @List.getElem?_eq_getElem
def cx := @Nat.zero_le
def cV := @Nat.le_trans
def ie := @List.mem_zipIdx_iff_getElem?
def fI := @Bool.true_and
def dA := @List.mem_cons
def eV := @List.all_eq_true
def ea := @List.prefix_rfl
def eo := @List.map_cons
def hB := @Array.length_toList
def hY := @Bool.false_eq_true
def auF := @Array.getElem?_toList
def oG := @List.length_map
def eO := @Nat.zero_add
def tY := @List.getD_eq_getElem?_getD
def ey := @List.mem_map
def ew := @List.cons.inj
def gM := @List.length_append
def hC := @List.prefix_append
def hZ := @Bool.not_true
def ev := @List.length_cons
def jy := @List.getElem?_map
def fX := @Nat.lt_or_ge
def kn := @List.flatMap_cons
def gm := @List.getElem?_set_ne
def kQ := @List.mem_cons_of_mem
def km := @Nat.le_of_ble_eq_true
def rr := @List.getElem?_cons_zero
def mR := @Nat.exists_eq_add_of_le
def mS := @List.append_assoc
def lb := @List.getElem?_eq_none
def sK := @List.all_eq_not_any_not
def wc := @List.drop_eq_getElem_cons
def jU := @Nat.min_le_left
def jA := @List.mem_append
def ns := @List.mem_iff_getElem?
def ko := @Bool.or_eq_true
def jB := @List.nil_append
def nV := @Bool.not_eq_true'
def pk := @List.mem_append_right
def jz := @List.cons_append
def nW := @List.map_append
def sI := @Array.getElem?_eq_some_iff
def B6 := @List.drop_eq_nil_of_le
def sJ := @List.getElem?_append_right
def ua := @List.contains_iff_mem
def nU := @List.getElem?_set_self
def ja := @List.length_nil
def pn := @List.map_congr_left
def v8 := @Array.getD_eq_getD_getElem?
def qt := @Nat.min_le_right
def tZ := @List.getElem?_toArray
def po := @List.mem_cons_self
def ub := @List.range'_succ
def qs := @Nat.lt_of_lt_of_le
def sN := @List.length_drop
def sL := @List.mem_map_of_mem
def mT := @List.map_nil
def lP := @Nat.min_eq_left
def ue := @Bool.not_false
def sM := @List.length_take
def sP := @List.not_mem_nil
def rz := @List.append_nil
def ry := @List.any_eq_true
def sO := @Option.getD_some
def ru := @List.Sublist.refl
def Kf := @List.length_eq_zero_iff
def xE := @List.length_replicate
def xD := @List.getElem?_zip_eq_some
def we := @List.mem_append_left
def rv := @Nat.le_max_right
def pq := @Option.map_some
def qu := @List.foldl_cons
def uc := @Nat.min_eq_right
def zR := @List.size_toArray
def Ke := @List.sublist_append_right
def Ki := @Nat.mul_le_mul_right
def FH := @List.range_eq_range'
def sQ := @Nat.le_max_left
def rA := @Option.some.inj
def auG := @List.length_pos_iff
def pr := @Nat.add_assoc
def wg := @List.ext_getElem?
def B9 := @Bool.or_eq_false_iff
def rB := @List.map_map
def oH := @Nat.ne_of_lt
def sR := @List.drop_drop
def qv := @Bool.false_or
def Cb := @Array.size_append
def FM := @List.nodup_append
def zS := @List.take_add_one
def Ce := @List.cons.injEq
def xH := @Bool.and_true
def ud := @List.nodup_cons
def Kh := @List.getElem?_cons_succ
def zU := @Bool.eq_iff_iff
def zP := @List.mem_of_mem_take
def xI := @Nat.le_of_lt
def wh := @Nat.lt_succ_self
def FG := @Array.getElem?_eq_none
def Ca := @List.replicate_succ
def QC := @Array.getElem?_setIfInBounds_ne
def Kl := @List.filterMap_cons
def zT := @List.length_set
def xF := @Option.map_none
def mA := @Nat.min_self
def zQ := @List.zip_cons_cons
def B8 := @List.mem_of_mem_drop
def zV := @Bool.and_self
def Cg := @Nat.succ_mul
def Cf := @Bool.and_assoc
def Ks := @List.mem_range
def Kk := @List.flatMap_append
def B5 := @List.take_of_length_le
def kp := @Ne.symm
def Ko := @List.map_toArray
def Cd := @List.mem_flatMap
def B7 := @List.take_append_drop
def QL := @List.getElem?_take
def axd := @Array.getElem?_modify
def FI := @List.mem_singleton
def FJ := @Nat.add_right_comm
def FK := @List.pairwise_cons
def rC := @Nat.add_mul
def QD := @List.pairwise_iff_getElem
def FT := @Bool.false_and
def axe := @Bool.and_eq_true_iff
def aaX := @Array.toList_eraseIdxIfInBounds
def Kr := @List.find?_cons
def FN := @List.flatten_cons
def zW := @Nat.add_zero
def aaY := @Array.eq_empty_of_size_eq_zero
def QJ := @List.toList_toArray
def Kg := @Int.eq_ofNat_of_zero_le
def FO := @Nat.max_eq_right
def FP := @List.getElem_map
def Kp := @List.getElem_mem
def Kq := @List.take_length
def av9 := @Int.mul_le_mul
def aa5 := @List.drop_of_length_le
def T8 := @List.set_cons_zero
def QN := @Nat.pos_of_ne_zero
def FU := @Bool.or_self
def FQ := @Nat.max_eq_left
def zX := @Nat.beq_refl
def FL := @Int.toNat_natCast
def Cc := @Nat.lt_succ_of_lt
def Km := @Bool.not_eq_false
def aaZ := @Array.getElem?_append_left
def QF := @List.set_append_left
def azo := @List.replicate_succ'
def QG := @List.pairwise_append
def T7 := @List.getElem?_of_mem
def FR := @List.nodup_nil
def aa1 := @Array.filter_eq_empty_iff
def Kn := @Nat.le_add_right
def QS := @List.drop_append
def QI := @List.drop_succ_cons
def xG := @List.all_cons
def QK := @List.getElem?_drop
def U1 := @List.set_cons_succ
def QM := @Array.foldl_toList
def U2 := @Nat.eq_zero_or_pos
def aa3 := @List.eraseIdx_cons_zero
def aa4 := @List.eraseIdx_cons_succ
def QO := @List.mem_filterMap
def QP := @List.findIdx?_cons
def ax6 := @List.length_range'
def aa6 := @Array.contains_iff_mem
def Ch := @Nat.le_succ
def QQ := @Array.toList_push
def QR := @List.any_eq_false
def axf := @List.foldl_nil
def axg := @Nat.mul_le_mul
def avO := @Nat.add_comm
def ax7 := @List.filter_cons
def ayw := @Bool.or_false
def Ci := @Go.Calls.mono
inductive V where
 |bool (b:Bool)
 |int (k:IntKind) (n:Int)
 |str (s:List UInt8)
 |cp
 |emp
 |list (es:Nat) (ds:List V)
 |agg (vs:List V)
 |aU (vs:List V)
 |jb
 |ptr (l o:Nat)
 |gF (l es i f tag:Nat)
 |dn (vs:List V) (f:Nat)
 |cz (l es off len tag:Nat)
 |iw
 |map (l:Nat)
 |jV
 |fn (i:Nat) (first caps:List V)
 |yield (l:Nat)
 |ig
 |iface (t:Nat) (v:V)
 |undef
 deriving Inhabited
inductive ag where
 |tmp (t:Nat)
 |var (t:Nat)
 |const (v:V)
 |func (i:Nat)
 deriving Inhabited
inductive cH where
 |mv (x:ag)
 |pick (c a b:ag)
 |alloc (z:List V)
 |box (x:ag)
 |build (z:List V) (parts:List (Nat × Nat × ag))
 |lit (es:Nat) (z:List V) (len:Nat) (parts:List (Nat × ag)) (jc:Bool)
 |load (sh:Option Nat) (x:ag)
 |store (n:Nat) (a x:ag)
 |nilCheck (x:ag)
 |bin (op:BinOp) (x y:ag)
 |xJ (neg:Bool) (ks:List Nat) (x y:ag)
 |pt (kind:Nat) (neg:Bool) (x y:ag)
 |un (op:UnOp) (x:ag)
 |conv (k:IntKind) (x:ag)
 |zZ (t:Nat) (x:ag)
 |sS (i:Nat) (first caps:List ag)
 |mkMap
 |mkSlice (es:Nat) (z:List V) (bytes:Nat) (l c:ag)
 |oI (x:ag) (lo hi:Option ag)
 |pw (es:Nat) (x:ag) (lo hi mx:Option ag)
 |fieldAddr (off:Nat) (x:ag)
 |field (off:Nat) (sh:Option Nat) (x:ag)
 |indexAddr (es:Nat) (x i:ag)
 |qw (x i:ag)
 |lookup (kind:Nat) (z:V) (x i:ag) (ok:Bool)
 |px (kind:Nat) (m k v:ag)
 |xK (kind:Nat) (m k:ag)
 |Cj (a b:ag)
 |au6 (a b:ag)
 |uf (x:ag)
 |extract (x:ag) (i:Nat)
 |len (kind:Nat) (x:ag)
 |append (es bytes:Nat) (a b:ag)
 |xC (es bytes:Nat) (a b:ag)
 |ug (mx:Bool) (x y:ag)
 |copy (es:Nat) (a b:ag)
 |call (raw:Bool) (f:ag) (args:List ag)
 |fail
 deriving Inhabited
structure bO where
 dst:Option (Nat × Bool)
 op:cH
 guard:Option (ag × Bool)
 deriving Inhabited
inductive cj where
 |skip
 |region (ops:List bO) (dO:Option (List Nat))
 |xL (ops:List bO) (ok:List Nat) (f:ag)
 |seq (a b:cj)
 |cond (c:ag) (t e:cj)
 |block (id:Nat) (body:cj)
 |loop (body:cj)
 |rangeFunc (f:ag) (params:List Nat) (assign body:cj)
 |exit (id:Nat)
 |ret
 |fail
 deriving Inhabited
inductive mB where
 |tmp (t:Nat)
 |cell (a:Nat) (sh:Option Nat)
 deriving Inhabited
structure h3 where
 xM:Nat
 body:cj
 results:List mB
 fresh:Bool
 deriving Inhabited
abbrev Env:=List (Nat × V)
inductive X where
 |normal
 |exit (id:Nat)
 |ret
 deriving DecidableEq,Inhabited
inductive cc where
 |cells (vs:List V)
 |row (es:Nat) (ds:List V) (dt:Bool)
 |map (bb:List (V × V))
 |loop (st:LoopState) (sT:X) (env:Env) (params:List Nat) (assign body:cj)
 |Nk (s:List UInt8)
 |dead (n:Nat)
 |gone
 deriving Inhabited
abbrev Heap:=List cc
structure aq where
 aG:Env
 av:Env
 H:Heap
 low:Nat
 ro:Option Nat:=none
 deriving Inhabited
def aE:V->List V
 | .agg vs=>vs
 |v=>[v]
mutual
def bs:V->Bool
 | .bool _| .int _ _| .str _| .cp| .emp| .list _ _| .jb| .iw| .jV| .ig=>true
 | .agg vs| .aU vs=>bW vs
 | .iface _ v=>bs v
 | .fn _ a b=>bW a&&bW b
 | _=>false
def bW:List V->Bool
 |[]=>true
 |v::r=>bs v&&bW r
end
mutual
def flat:V->Bool
 | .bool _| .int _ _| .str _| .cp| .emp| .jb| .iw| .jV| .ig=>true
 | .agg vs| .aU vs=>uh vs
 | _=>false
def uh:List V->Bool
 |[]=>true
 |v::r=>flat v&&uh r
end
mutual
def old (n:Nat):V->Bool
 | .ptr l _| .gF l _ _ _ _| .cz l _ _ _ _| .map l| .yield l=>decide (l<n)
 | .agg vs| .aU vs=>olds n vs
 | .fn _ a b=>olds n a&&olds n b
 | .iface _ v=>old n v
 | .undef=>false
 | _=>true
def olds (n:Nat):List V->Bool
 |[]=>true
 |v::r=>old n v&&olds n r
end
def ui:V->Bool
 | .undef=>true
 | _=>false
def fY (cs:List V)(o:Nat):Option Nat->Option V
 |none=>cs[o]?
 |some n=>if o+n<=cs.length then some (.agg ((cs.drop o).take n))else none
def setCells (cs:List V)(o:Nat):List V->List V
 |[]=>cs
 |x::xs=>setCells (cs.set o x) (o+1) xs
def bk:Env->Nat->V
 |[],_=>.undef
 |(k,v)::r,t=>if k=t then v else bk r t
def ec:Env->Nat->V->Env
 |[],t,v=>[(t,v)]
 |(k,u)::r,t,v=>if k=t then(k,v)::r else(k,u)::ec r t v
def ag.ae (aG av:Env):ag->V
 | .tmp t=>bk aG t
 | .var t=>bk av t
 | .const v=>v
 | .func i=>.fn i [] []
def gN (H:Heap)(sh:Option Nat):V->Option V
 | .ptr l o=>match H[l]? with
   |some (.cells vs)=>fY vs o sh
   | _=>none
 | .gF l es i f tag=>match H[l]? with
   |some (.row bD ds _)=>if bD=es/\ds.length=tag then(ds[i]?).bind fun d=>fY (aE d) f sh else none
   | _=>none
 | .dn vs f=>fY vs f sh
 | _=>none
def wi (d:V)(f:Nat)(xs:List V):Option V:=
 match d with
 | .agg vs=>if f+xs.length<=vs.length then some (.agg (setCells vs f xs))else none
 | _=>match f,xs with
   |0,[x]=>some x
   | _,_=>none
def ed:V->Bool
 | .agg _| .aU _| .undef=>false
 | _=>true
def bS:List V->Bool
 |[]=>true
 |v::r=>ed v&&bS r
def plainCell:V->Bool
 | .agg _| .aU _| .undef| .dn .. | .gF .. =>false
 | _=>true
def lQ:List V->Bool
 |[]=>true
 |v::r=>plainCell v&&lQ r
def hD (H:Heap)(n:Nat)(a v:V):Option (Heap × Nat):=
 match a with
 | .ptr l o=>match H[l]? with
   |some (.cells vs)=>if(aE v).length=n/\o+n<=vs.length/\bS (aE v)=true then some (H.set l (.cells (setCells vs o (aE v))),l)else none
   | _=>none
 | .gF l es i f tag=>match H[l]? with
   |some (.row bD ds false)=>
    if bD=es/\ds.length=tag/\(aE v).length=n/\lQ (aE v)=true then
     match ds[i]? with
     |some d=>match wi d f (aE v)with
      |some d'=>some (H.set l (.row es (ds.set i d') false),l)
      |none=>none
     |none=>none
    else none
   | _=>none
 | _=>none
def kq (f:Heap->Nat->V->Option (V × Heap × Nat))(H:Heap)(low:Nat):List V->Option (List V × Heap × Nat)
 |[]=>some ([],H,low)
 |v::r=>match f H low v with
  |some (v',H1,bI)=>match kq f H1 bI r with
   |some (mU,H2,c5)=>some (v'::mU,H2,c5)
   |none=>none
  |none=>none
def dF:Nat->Heap->Nat->V->Option (V × Heap × Nat)
 |0,H,low,v=>if bs v then some (v,H,low)else none
 |n+1,H,low,v=>
  if bs v then some (v,H,low)else
  match v with
  | .agg vs=>match kq (dF n) H low vs with
    |some (vs',H',low')=>some (.agg vs',H',low')
    |none=>none
  | .aU vs=>match kq (dF n) H low vs with
    |some (vs',H',low')=>some (.aU vs',H',low')
    |none=>none
  | .cz l es off len tag=>match H[l]? with
    |some (.row bD ds dt)=>
     if bD=es/\ds.length=tag/\off+len<=ds.length then
      if bW ds=true then some (.list es ((ds.drop off).take len),if dt then H else H.set l (.row es ds true),if dt then low else min low l)
      else match kq (dF n) H low ds with
       |some (ds',H',low')=>match H'[l]? with
        |some (.row QT QU false)=>
         if QT=es/\QU.length=tag/\bW ds'=true then some (.list es ((ds'.drop off).take len),H'.set l (.row es ds' true),min low' l)else none
        | _=>none
       |none=>none
     else none
    | _=>none
  |v=>some (v,H,low)
def eP (H:Heap)(low:Nat)(v:V):Option (V × Heap × Nat):=dF 16 H low v
def dX (H:Heap)(low:Nat):List V->Option (List V × Heap × Nat)
 |[]=>some ([],H,low)
 |v::r=>match eP H low v with
  |some (v',H1,bI)=>match dX H1 bI r with
   |some (mU,H2,c5)=>some (v'::mU,H2,c5)
   |none=>none
  |none=>none
def elems (H:Heap)(es:Nat):V->Option (List V)
 | .cp| .emp=>some []
 | .list bD ds=>if bD=es then some ds else none
 | .cz l bD off len tag=>match H[l]? with
   |some (.row eX ds _)=>if bD=es/\eX=es/\ds.length=tag/\off+len<=ds.length then some ((ds.drop off).take len)else none
   | _=>none
 | _=>none
def kR:V->Option Bool
 | .bool b=>some b
 | _=>none
def kr:V->Option Nat
 | .int _ n=>if 0<=n then some n.toNat else none
 | _=>none
def dB (op:BinOp)(x y:V):Option V:=
 match op,x,y with
 | .shl,.int k a,.int _ b=>if 0<=b/\b.toNat<=k.bits then some (.int k (k.wrap (a*2^b.toNat)))else none
 | .shr,.int k a,.int _ b=>if 0<=b/\b.toNat<=k.bits then some (.int k (a/2^b.toNat))else none
 |op,.int k a,.int bp b=>
  if k≠bp then none else
  match op with
  | .add=>some (.int k (k.wrap (a+b)))
  | .sub=>some (.int k (k.wrap (a-b)))
  | .mul=>some (.int k (k.wrap (a*b)))
  | .quo=>if b=0 then none else some (.int k (k.wrap (a.tdiv b)))
  | .rem=>if b=0 then none else some (.int k (a.tmod b))
  | .eql=>some (.bool (a==b))
  | .neq=>some (.bool (a != b))
  | .lss=>some (.bool (decide (a<b)))
  | .leq=>some (.bool (decide (a<=b)))
  | .gtr=>some (.bool (decide (a>b)))
  | .geq=>some (.bool (decide (a>=b)))
  | .and=>some (.int k (k.wrap ((BitVec.ofInt k.bits a &&& BitVec.ofInt k.bits b).toNat)))
  | _=>none
 | .add,.str a,.str b=>if a.length+b.length<=2^40 then some (.str (a++b))else none
 | .eql,.str a,.str b=>some (.bool (a==b))
 | .neq,.str a,.str b=>some (.bool (a != b))
 | _,_,_=>none
def oJ (kind:Nat)(x y:V):Option Bool:=
 match kind,x,y with
 |0,.jb,.jb=>some true
 |0,.ptr _ _,.jb|0,.jb,.ptr _ _=>some false
 |1,.cp,.cp=>some true
 |1,.emp,.cp|1,.list _ _,.cp|1,.cz _ _ _ _ _,.cp=>some false
 |2,.jV,.jV=>some true
 |2,.fn _ _ _,.jV=>some false
 |3,.ig,.ig=>some true
 |3,.iface _ _,.ig=>some false
 |4,.bool a,.bool b=>some (a==b)
 | _,_,_=>none
def kS (op:UnOp)(x:V):Option V:=
 match op,x with
 | .neg,.int k n=>some (.int k (k.wrap (0-n)))
 | .not,.bool b=>some (.bool !b)
 | _,_=>none
def ix:Nat->V->V->Option Bool
 |0,.int k a,.int bp b=>if k=bp then some (a==b)else none
 |1,.str a,.str b=>some (a==b)
 |2,.bool a,.bool b=>some (a==b)
 | _,_,_=>none
def jW:List Nat->List V->List V->Option Bool
 |[],[],[]=>some true
 |k::ks,a::x,b::y=>match ix k a b with
  |some e=>match jW ks x y with
   |some e'=>some (e&&e')
   |none=>none
  |none=>none
 | _,_,_=>none
def h4 (kind:Nat)(k:V):List (V × V)->Option (Option V)
 |[]=>some none
 |(bp,v)::r=>match ix kind k bp with
  |some true=>some (some v)
  |some false=>h4 kind k r
  |none=>none
def ld (kind:Nat)(k v:V):List (V × V)->List (V × V)
 |[]=>[(k,v)]
 |(bp,u)::r=>if ix kind k bp=some true then(k,v)::r else(bp,u)::ld kind k v r
def iy (kind:Nat)(k:V):List (V × V)->List (V × V)
 |[]=>[]
 |(bp,u)::r=>if ix kind k bp=some true then r else(bp,u)::iy kind k r
def bytesOf:List V->Option (List UInt8)
 |[]=>some []
 | .int .u8 n::r=>(bytesOf r).map (UInt8.ofNat n.toNat:: ·)
 | _=>none
def uj (cs:List V):List (Nat × Nat × V)->Option (List V)
 |[]=>some cs
 |(off,n,v)::r=>if(aE v).length=n/\off+n<=cs.length/\bS (aE v)=true then uj (setCells cs off (aE v)) r else none
def oK (es:Nat)(ds:List V):List (Nat × V)->Option (List V)
 |[]=>some ds
 |(i,v)::r=>if(aE v).length=es/\i<ds.length/\bS (aE v)=true then oK es (ds.set i v) r else none
def kT (z:List V):V:=match z with|[x]=>x| _=>.agg z
def eF (ae:ag->V)(Kt:Nat):Option ag->Option Nat
 |none=>some Kt
 |some x=>kr (ae x)
def step (ae:ag->V)(H:Heap)(low:Nat):cH->Option (V × Heap × Nat)
 | .mv x=>some (ae x,H,low)
 | .pick c a b=>(kR (ae c)).map fun t=>(if t then ae a else ae b,H,low)
 | .alloc z=>some (.ptr H.length 0,H++[.cells z],low)
 | .box x=>if bS (aE (ae x))then some (.ptr H.length 0,H++[.cells (aE (ae x))],low)else none
 | .build z parts=>(uj z (parts.map fun p=>(p.1,p.2.1,ae p.2.2))).map fun cs=>(.agg cs,H,low)
 | .lit es z len parts jc=>match dX H low (parts.map fun p=>ae p.2)with
   |some (vs,H',low')=>match oK es (List.replicate len (kT z)) ((parts.zip vs).map fun(p,v)=>(p.1,v))with
    |some ds=>
     if jc then(if bW ds then some (if len=0 then .emp else .list es ds,H',low')else none)
     else if len=0 then some (.emp,H',low')else some (.cz H'.length es 0 len len,H'++[.row es ds false],low')
    |none=>none
   |none=>none
 | .load sh x=>(gN H sh (ae x)).map fun v=>(v,H,low)
 | .store n a x=>(hD H n (ae a) (ae x)).map fun(H',l)=>(.undef,H',min low l)
 | .nilCheck x=>match ae x with
   | .ptr l o=>some (.ptr l o,H,low)
   | .gF l es i f tag=>some (.gF l es i f tag,H,low)
   | .dn vs f=>some (.dn vs f,H,low)
   | .fn i a b=>some (.fn i a b,H,low)
   | _=>none
 | .bin op x y=>(dB op (ae x) (ae y)).map fun v=>(v,H,low)
 | .xJ neg ks x y=>match ae x,ae y with
   | .agg a,.agg b=>(jW ks a b).map fun e=>(.bool (if neg then !e else e),H,low)
   | _,_=>none
 | .pt kind neg x y=>(oJ kind (ae x) (ae y)).map fun e=>(.bool (if neg then !e else e),H,low)
 | .un op x=>(kS op (ae x)).map fun v=>(v,H,low)
 | .conv k x=>match ae x with
   | .int _ n=>some (.int k (k.wrap n),H,low)
   | _=>none
 | .zZ t x=>match eP H low (ae x)with
   |some (v,H',low')=>some (.iface t v,H',low')
   |none=>none
 | .sS i a b=>some (.fn i (a.map ae) (b.map ae),H,low)
 | .mkMap=>some (.map H.length,H++[.map []],low)
 | .mkSlice es z bytes l c=>match ae l,ae c with
   | .int _ n,.int _ m=>if n=m/\0<=n/\n*(bytes+1)<=2^40 then
     (if n=0 then some (.emp,H,low)else
       some (.cz H.length es 0 n.toNat n.toNat,H++[.row es (List.replicate n.toNat (kT z)) false],low))else none
   | _,_=>none
 | .oI x lo hi=>match ae x with
   | .str s=>match eF ae 0 lo,eF ae s.length hi with
     |some a,some b=>if a<=b/\b<=s.length then some (.str ((s.take b).drop a),H,low)else none
     | _,_=>none
   | _=>none
 | .pw es x lo hi mx=>match ae x with
   | .cp=>match eF ae 0 lo,eF ae 0 hi,eF ae 0 mx with
     |some 0,some 0,some 0=>some (.cp,H,low)
     | _,_,_=>none
   | .emp=>match eF ae 0 lo,eF ae 0 hi,eF ae 0 mx with
     |some 0,some 0,some 0=>some (.emp,H,low)
     | _,_,_=>none
   | .list bD ds=>match eF ae 0 lo,eF ae ds.length hi with
     |some a,some b=>if a<=b/\b<=ds.length/\bD=es then
       match mx with
       |none=>some (.list es ((ds.take b).drop a),H,low)
       |some m=>if kr (ae m)=some 0/\b=0 then some (.emp,H,low)else none
      else none
     | _,_=>none
   | .cz l bD off len tag=>match eF ae 0 lo,eF ae len hi with
     |some a,some b=>if a<=b/\b<=len/\bD=es then
       match mx with
       |none=>match H[l]? with
        |some (.row eX ds _)=>if ds.length=tag/\eX=es then(if a<b then some (.cz l es (off+a) (b-a) tag,H,low)else some (.list es [],H,low))else none
        | _=>none
       |some m=>if kr (ae m)=some 0/\b=0 then some (.emp,H,low)else none
      else none
     | _,_=>none
   | _=>none
 | .fieldAddr off x=>match ae x with
   | .ptr l o=>some (.ptr l (o+off),H,low)
   | .gF l es i f tag=>some (.gF l es i (f+off) tag,H,low)
   | .dn vs f=>some (.dn vs (f+off),H,low)
   | _=>none
 | .field off sh x=>match ae x with
   | .agg vs=>(fY vs off sh).map fun v=>(v,H,low)
   | _=>none
 | .indexAddr es x i=>match kr (ae i)with
   |some i=>match ae x with
    | .list bD ds=>if bD=es then(ds[i]?).map fun d=>(.dn (aE d) 0,H,low)else none
    | .cz l bD off len tag=>match H[l]? with
      |some (.row eX ds _)=>if bD=es/\eX=es/\ds.length=tag/\i<len/\off+len<=ds.length then some (.gF l es (off+i) 0 tag,H,low)else none
      | _=>none
    | _=>none
   |none=>none
 | .qw x i=>match ae x,kr (ae i)with
   | .str s,some i=>(s[i]?).map fun c=>(.int .u8 c.toNat,H,low)
   | _,_=>none
 | .lookup kind z x i ok=>match ae x with
   | .iw=>some (if ok then .aU [z,.bool false]else z,H,low)
   | .map l=>match H[l]? with
     |some (.map bb)=>match h4 kind (ae i) bb with
      |some (some v)=>some (if ok then .aU [v,.bool true]else v,H,low)
      |some none=>some (if ok then .aU [z,.bool false]else z,H,low)
      |none=>none
     | _=>none
   | _=>none
 | .px kind m k v=>match eP H low (ae v)with
   |some (v',H',low')=>if ui v' then none else match ae m with
    | .map l=>match H'[l]? with
      |some (.map bb)=>match h4 kind (ae k) bb with
       |some _=>some (.undef,H'.set l (.map (ld kind (ae k) v' bb)),min low' l)
       |none=>none
      | _=>none
    | _=>none
   |none=>none
 | .xK kind m k=>match ae m with
   | .iw=>some (.aU [],H,low)
   | .map l=>match H[l]? with
     |some (.map bb)=>match h4 kind (ae k) bb with
      |some _=>some (.aU [],H.set l (.map (iy kind (ae k) bb)),min low l)
      |none=>none
     | _=>none
   | _=>none
 | .Cj a b=>match ae b with
   | .str s=>
     if s.isEmpty then
      match ae a with
      | .cp=>some (.cp,H,low)
      | .emp=>some (.emp,H,low)
      | .cz l bD off len tag=>match H[l]? with
        |some (.row _ ds _)=>if ds.length=tag then some (.cz l bD off len tag,H,low)else none
        | _=>none
      | _=>none
     else
      let xs:List V:=s.map fun c=>.int .u8 c.toNat
      match ae a with
      | .cp=>if xs.length*2<=2^40 then some (.cz H.length 1 0 xs.length xs.length,H++[.row 1 xs false],low)else none
      | .emp=>if xs.length*2<=2^40 then some (.cz H.length 1 0 xs.length xs.length,H++[.row 1 xs false],low)else none
      | .cz l bD off len tag=>match H[l]? with
        |some (.row eX ds false)=>
         if bD=1/\eX=1/\ds.length=tag/\off=0/\len=tag/\(len+xs.length)*2<=2^40 then
          some (.cz l 1 0 (len+xs.length) (len+xs.length),H.set l (.row 1 (ds++xs) false),min low l)
         else none
        | _=>none
      | _=>none
   | _=>none
 | .au6 a b=>match ae a,ae b with
   | .cp,.str s=>
     if s.isEmpty then some (.cp,H,low)
     else if s.length*2<=2^40 then some (.cz H.length 1 0 s.length s.length,H++[.Nk s],low)else none
   | .cz l es off len tag,.str s=>match H[l]? with
     |some (.Nk r)=>if s.isEmpty=false/\es=1/\off=0/\len=tag/\r.length=tag/\(len+s.length)*2<=2^40 then
       some (.cz l 1 0 (len+s.length) (len+s.length),H.set l (.Nk (r++s)),min low l)else none
     | _=>none
   | _,_=>none
 | .uf x=>match elems H 1 (ae x)with
   |some ds=>(bytesOf ds).map fun s=>(.str s,H,low)
   |none=>none
 | .extract x i=>match ae x with
   | .aU vs=>(vs[i]?).map fun v=>(v,H,low)
   | _=>none
 | .len kind x=>match kind,ae x with
   |0,.str s=>some (.int .i64 s.length,H,low)
   |1,.cp|1,.emp=>some (.int .i64 0,H,low)
   |1,.list _ ds=>some (.int .i64 ds.length,H,low)
   |1,.cz l es _ len tag=>match H[l]? with
    |some (.row bD ds _)=>if bD=es/\ds.length=tag then some (.int .i64 len,H,low)else none
    |some (.Nk r)=>if r.length=tag then some (.int .i64 len,H,low)else none
    | _=>none
   |2,.iw=>some (.int .i64 0,H,low)
   |2,.map l=>match H[l]? with
    |some (.map bb)=>some (.int .i64 bb.length,H,low)
    | _=>none
   | _,_=>none
 | .xC es bytes a b=>match elems H es (ae b)with
   |some xs=>if bW xs=false then none else match ae a with
    | .cp=>if xs.isEmpty then some (.cp,H,low)else if bS (xs.flatMap aE)=true/\xs.length*(bytes+1)<=2^40 then some (.list es xs,H,low)else none
    | .emp=>if xs.isEmpty then some (.emp,H,low)else if bS (xs.flatMap aE)=true/\xs.length*(bytes+1)<=2^40 then some (.list es xs,H,low)else none
    | _=>none
   |none=>none
 | .append es bytes a b=>match elems H es (ae b)with
   |some xs=>match dX H low xs with
    |some (xs,H',low')=>
     if xs.isEmpty then
      match ae a with
      | .cp=>some (.cp,H',low')
      | .emp=>some (.emp,H',low')
      | .list bD ds=>some (.list bD ds,H',low')
      | .cz l bD off len tag=>match H'[l]? with
        |some (.row _ ds _)=>if ds.length=tag then some (.cz l bD off len tag,H',low')else none
        | _=>none
      | _=>none
     else if bS (xs.flatMap aE)=false then none else
     match ae a with
     | .cp=>if xs.length*(bytes+1)<=2^40 then
       some (.cz H'.length es 0 xs.length xs.length,H'++[.row es xs false],low')else none
     | .emp=>if xs.length*(bytes+1)<=2^40 then
       some (.cz H'.length es 0 xs.length xs.length,H'++[.row es xs false],low')else none
     | .cz l bD off len tag=>match H'[l]? with
       |some (.row eX ds false)=>
        if bD=es/\eX=es/\ds.length=tag/\off=0/\len=tag/\(len+xs.length)*(bytes+1)<=2^40 then
         some (.cz l es 0 (len+xs.length) (len+xs.length),H'.set l (.row es (ds++xs) false),min low' l)
        else none
       | _=>none
     | _=>none
    |none=>none
   |none=>none
 | .ug mx x y=>match ae x,ae y with
   | .int k a,.int bp b=>if k=bp then some (.int k (if mx then max a b else min a b),H,low)else none
   | _,_=>none
 | .copy es a b=>match ae a,elems H es (ae b)with
   | .cp,some _| .emp,some _=>some (.int .i64 0,H,low)
   | .cz l bD off len tag,some xs=>match H[l]? with
     |some (.row eX ds false)=>
      if bD=es/\eX=es/\ds.length=tag/\off+len<=ds.length/\lQ (xs.flatMap aE)=true then
       some (.int .i64 ((min len xs.length:Nat):Int),H.set l (.row es (ds.take off++xs.take len++ds.drop (off+min len xs.length)) false),min low l)
      else none
     | _=>none
   | _,_=>none
 | .call _ _ _=>none
 | .fail=>none
abbrev cU:=V->List V->Heap->Option (V × Heap × Nat)
def e3 (aG av:Env):Option (ag × Bool)->Option Bool
 |none=>some true
 |some (t,b)=>match t.ae aG av with
  | .bool c=>some (c==b)
  | .aU []=>some false
  | _=>none
def aq.put (st:aq):Option (Nat × Bool)->V->aq
 |none,_=>st
 |some (t,true),v=>{st with av:=ec st.av t v}
 |some (t,false),v=>{st with aG:=(t,v)::st.aG}
def b2 (call:cU)(ae:ag->V)(H:Heap)(low:Nat):cH->Option (V × Heap × Nat)
 | .call true f args=>match call (ae f) (args.map ae) H with
   |some (v,H',l)=>some (v,H',min low l)
   |none=>none
 | .call false f args=>match dX H low (args.map ae)with
   |some (vs,H',low')=>match call (ae f) vs H' with
    |some (v,FV,l)=>if flat v=true/\H'.length<=l then some (v,H,low)else some (v,FV,min low' l)
    |none=>none
   |none=>none
 |op=>step ae H low op
def eG (H H':Heap)(low:Nat):Bool:=decide (low<H.length)||H'.length != H.length
def cQ (call:cU):List bO->aq->List Bool->Option (aq × List Bool)
 |[],st,wr=>some (st,wr.reverse)
 |o::r,st,wr=>
  match e3 st.aG st.av o.guard with
  |some true=>match b2 call (ag.ae st.aG st.av) st.H st.H.length o.op with
   |some (v,H',low')=>cQ call r ({st with H:=H',low:=min st.low low'}.put o.dst v) (eG st.H H' low'::wr)
   |none=>none
  |some false=>cQ call r (st.put o.dst (.aU [])) (false::wr)
  |none=>none
def fw:cH->Bool
 | .mv _| .pick .. | .build .. | .nilCheck _| .bin .. | .xJ .. | .pt .. | .un .. | .conv .. | .sS .. | .oI .. | .fieldAddr .. | .field .. | .qw .. | .extract .. | .ug .. =>false
 | _=>true
def cH.operands:cH->List ag
 | .mv x| .box x| .load _ x| .nilCheck x| .un _ x| .conv _ x| .zZ _ x| .fieldAddr _ x| .field _ _ x| .extract x _| .len _ x=>[x]
 | .pick a b c=>[a,b,c]
 | .alloc _| .mkMap| .fail=>[]
 | .build _ parts=>parts.map (·.2.2)
 | .lit _ _ _ parts _=>parts.map (·.2)
 | .store _ a x| .bin _ a x| .xJ _ _ a x| .pt _ _ a x| .mkSlice _ _ _ a x| .indexAddr _ a x| .qw a x| .lookup _ _ a x _| .append _ _ a x| .xC _ _ a x| .ug _ a x| .copy _ a x=>[a,x]
 | .sS _ a b=>a++b
 | .oI x lo hi=>x::(lo.toList++hi.toList)
 | .pw _ x lo hi mx=>x::(lo.toList++hi.toList++mx.toList)
 | .px _ m k v=>[m,k,v]
 | .xK _ m k=>[m,k]
 | .Cj a b=>[a,b]
 | .au6 a b=>[a,b]
 | .uf x=>[x]
 | .call _ f args=>f::args
def rD (dO:List Nat)(ops:List bO)(wr:List Bool):Bool:=
 if wr.any id then
  (wr.zipIdx).all fun(w,i)=>!w||(ops.zipIdx).all fun(o,j)=>
    !fw o.op||i==j||(if j<i then(dO.getD i 0).testBit j else(dO.getD j 0).testBit i)
 else true
def wj (ops:List bO):Bool:=ops.all fun o=>!fw o.op||match o.op,o.guard with
 | .mkSlice ..,none=>true
 | _,_=>false
def nX (dO:List Nat)(ops:List bO)(wr:List Bool):Bool:=rD dO ops wr||wj ops
mutual
def dP:V->V->Bool
 | .bool a,.bool b=>a==b
 | .int k n,.int bp m=>decide (k=bp)&&decide (n=m)
 | .str s,.str al=>decide (s=al)
 | .cp,.cp| .emp,.emp| .jb,.jb| .iw,.iw| .jV,.jV| .ig,.ig| .undef,.undef=>true
 | .list e ds,.list e' ds'=>decide (e=e')&&mV ds ds'
 | .agg a,.agg b| .aU a,.aU b=>mV a b
 | .ptr l o,.ptr l' o'=>decide (l=l')&&decide (o=o')
 | .gF a b c d e,.gF a7 eL c' d' e'=>decide (a=a7)&&(decide (b=eL)&&(decide (c=c')&&(decide (d=d')&&decide (e=e'))))
 | .dn vs f,.dn vs' lR=>mV vs vs'&&decide (f=lR)
 | .cz a b c d e,.cz a7 eL c' d' e'=>decide (a=a7)&&(decide (b=eL)&&(decide (c=c')&&(decide (d=d')&&decide (e=e'))))
 | .map l,.map l'| .yield l,.yield l'=>decide (l=l')
 | .fn i a b,.fn z1 a7 eL=>decide (i=z1)&&(mV a a7&&mV b eL)
 | .iface t v,.iface eY v'=>decide (t=eY)&&dP v v'
 | _,_=>false
def mV:List V->List V->Bool
 |[],[]=>true
 |a::r,b::s=>dP a b&&mV r s
 | _,_=>false
end
def fx (call:cU):List bO->aq->Option (List aq)
 |[],st=>some [st]
 |o::r,st=>
  match e3 st.aG st.av o.guard with
  |some true=>match b2 call (ag.ae st.aG st.av) st.H st.H.length o.op with
   |some (v,H',low')=>(fx call r ({st with H:=H',low:=min st.low low'}.put o.dst v)).map (st:: ·)
   |none=>none
  |some false=>(fx call r (st.put o.dst (.aU []))).map (st:: ·)
  |none=>none
def oL (dO:List Nat)(i j:Nat):Bool:=if j<i then(dO.getD i 0).testBit j else(dO.getD j 0).testBit i
def jX (call:cU)(q:bO × aq × Heap):Bool:=
 match e3 q.2.1.aG q.2.1.av q.1.guard with
 |some false=>true
 |some true=>match b2 call (ag.ae q.2.1.aG q.2.1.av) q.2.1.H q.2.1.H.length q.1.op with
  |some (v,_,_)=>match b2 call (ag.ae q.2.1.aG q.2.1.av) q.2.2 q.2.2.length q.1.op with
   |some (v',H',low')=>dP v v'&&!eG q.2.2 H' low'
   |none=>false
  |none=>false
 |none=>false
def FW (dO:List Nat)(wr:List Bool):Bool:=
 wr.zipIdx.all fun(w,i)=>!w||wr.zipIdx.all fun(w',j)=>!w'||i==j||oL dO i j
def FX (dO:List Nat)(ops:List bO)(wr:List Bool)(cf:List aq):List (bO × aq × Heap):=
 ops.zipIdx.flatMap fun(o,j)=>if !fw o.op||wr.getD j false then[]else
  cf.zipIdx.flatMap fun(z6,k)=>if k==j||(k != 0&&!wr.getD (k-1) false)||wr.zipIdx.any (fun(w,i)=>w&&(i != j&&(oL dO i j&&(decide (i<j) != decide (i<k)))))then[]else
    match cf[j]? with
    |some FY=>[(o,FY,z6.H)]
    |none=>[]
def qx (call:cU)(dO:List Nat)(ops:List bO)(wr:List Bool)(st:aq):Bool:=
 match fx call ops st with
 |some cf=>FW dO wr&&(FX dO ops wr cf).all (jX call)
 |none=>false
def Ck (o:bO):Bool:=match o.op,o.guard with
 | .alloc _,none=>true
 | _,_=>false
def kt (ops:List bO):Nat:=(ops.takeWhile fun o=>!Ck o).length
def oM (ops:List bO):Nat:=kt ops+((ops.drop (kt ops)).takeWhile Ck).length
def wk (dO:List Nat)(ops:List bO)(wr:List Bool):Bool:=
 let p:=kt ops;let q:=oM ops
 (wr.take p).all (!·)&&((wr.zipIdx).all fun(w,i)=>!w||Nat.blt i q||(ops.zipIdx).all fun(o,j)=>!fw o.op||Nat.blt j p||i==j||oL dO i j)&&
   (ops.zipIdx).all fun(o,j)=>!fw o.op||Nat.blt j q||(List.range' p (q-p)).all fun i=>oL dO i j
def z7 (ops:List bO)(cf:List aq):List (bO × aq × Heap):=(cf.drop (oM ops)).flatMap fun T=>
 ((ops.zip cf).take (kt ops)).filterMap fun(o,s)=>if fw o.op then some (o,s,T.H)else none
def nY (call:cU)(dO:List Nat)(ops:List bO)(wr:List Bool)(st:aq):Bool:=
 qx call dO ops wr st||match fx call ops st with
  |some cf=>wk dO ops wr&&(z7 ops cf).all (jX call)
  |none=>false
def iter (f:aq->Option (X × aq)):Nat->aq->Option (X × aq)
 |0,_=>none
 |n+1,st=>match f st with
  |some (.normal,aF)=>iter f n aF
  |r=>r
def wm:V->Bool
 | .fn .. =>true
 | _=>false
def Ku (ok:List Nat):V->Bool
 | .fn i [] _=>ok.contains i
 | _=>false
def xN (H:Heap):Option Nat->Bool
 |none=>true
 |some l=>match H[l]? with
  |some (.loop ..)=>true
  | _=>false
def aq.closed (st:aq):aq:=match Nat.ble st.low 0 with
 |true=>{st with aG:=[]}
 |false=>{st with aG:=[]}
theorem aq.fp (st:aq):st.closed={st with aG:=[]}:=by
 unfold aq.closed;split<;>rfl
def exec (call:cU)(n:Nat):cj->aq->Option (X × aq)
 | .skip,st=>some (.normal,st)
 | .region ops dO,st=>match cQ call ops {st with aG:=[]} []with
   |some (aF,wr)=>match dO with
    |none=>some (.normal,aF.closed)
    |some b=>if nX b ops wr||nY call b ops wr {st with aG:=[]}then some (.normal,aF.closed)else none
   |none=>none
 | .xL ops ok f,st=>match cQ call ops {st with aG:=[]} []with
   |some (aF,_)=>if(st.ro.isNone&&Ku ok (f.ae aF.aG aF.av))=true then some (.normal,aF.closed)else none
   |none=>none
 | .seq a b,st=>match exec call n a st with
   |some (.normal,aF)=>exec call n b aF
   |r=>r
 | .cond c t e,st=>match c.ae st.aG st.av with
   | .bool true=>exec call n t st
   | .bool false=>exec call n e st
   | _=>none
 | .block id c,st=>match exec call n c st with
   |some (.exit sU,aF)=>if sU=id then some (.normal,aF)else some (.exit sU,aF)
   |r=>r
 | .loop c,st=>iter (exec call n c) n st
 | .rangeFunc f params assign body,st=>
   let l:=st.H.length
   if(xN st.H st.ro&&wm (f.ae st.aG st.av))=false then none else
   match call (f.ae st.aG st.av) [.yield l] (st.H++[.loop .ready .normal st.av params assign body])with
   |some (_,H',low')=>match H'[l]? with
    |some (.loop ls sT _ _ _ _)=>if ls=.busy then none else some (sT,{st with H:=H'.set l .gone,low:=min st.low low'})
    | _=>none
   |none=>none
 | .exit id,st=>some (.exit id,st)
 | .ret,st=>some (.ret,st)
 | .fail,_=>none
def hE (av:Env)(H:Heap):mB->Option V
 | .tmp t=>some (bk av t)
 | .cell a sh=>gN H sh (bk av a)
def fy (env:Env)(H:Heap):List mB->Option (List V)
 |[]=>some []
 |r::rs=>match hE env H r with
  |some v=>match fy env H rs with
   |some vs=>some (v::vs)
   |none=>none
  |none=>none
def fQ:Nat->List V->Env
 | _,[]=>[]
 |i,v::r=>(i,v)::fQ (i+1) r
def finish (fresh:Bool)(H0:Heap)(v:V)(H:Heap)(low:Nat):Option (V × Heap × Nat):=
 match fresh,v with
 |true,.cz l es off len tag=>match H[l]? with
  |some (.row bD ds false)=>
   if H0.length<=low/\H0.length<=l/\bD=es/\ds.length=tag/\olds H0.length ds=true then some (.cz H0.length es off len tag,H0++[.row es ds false],H0.length)else if l<H0.length then some (.cz l es off len tag,H,low)else none
  | _=>none
 | _,v=>match eP H low v with
   |some (v',H',low')=>if H0.length<=low'/\old H0.length v'=true then some (v',H0,H0.length)else some (v',H',low')
   |none=>none
abbrev NM:=List V->Heap->Option (V × List (Nat × cc) × List cc)
inductive bY where
 |code (f:h3)
 |ext (spec:List V->Option V)
 |zr (spec:NM)
 deriving Inhabited
def U4 (H:Heap)(l:List (Nat × cc)):Heap:=l.foldl (fun H p=>H.set p.1 p.2) H
def U5 (n:Nat)(l:List (Nat × cc)):Nat:=l.foldl (fun n p=>min n p.1) n
def OQ (spec:NM)(args:List V)(H:Heap):Option (V × Heap × Nat):=(spec args H).map fun r=>(r.1,U4 H r.2.1++r.2.2,U5 H.length r.2.1)
def fZ (ex:cj->aq->Option (X × aq))(f:h3)(args:List V)(H:Heap):Option (V × Heap × Nat):=
 if args.length<=f.xM then
  match ex f.body {aG:=[],av:=fQ 0 args,H,low:=H.length}with
  |some (.normal,st)|some (.ret,st)=>match fy st.av st.H f.results with
   |some [v]=>finish f.fresh H v st.H st.low
   |some vs=>finish f.fresh H (.aU vs) st.H st.low
   |none=>none
  | _=>none
 else none
def nZ (ex:cj->aq->Option (X × aq))(l:Nat)(args:List V)(H:Heap):Option (V × Heap × Nat):=
 match H[l]? with
 |some (.loop .ready _ env params assign body)=>
  if args.length=params.length then
   match ex assign {aG:=[],av:=(params.zip args).foldl (fun e (t,v)=>ec e t v) env,H,low:=H.length,ro:=some l}with
   |some (.normal,st)=>match st.H[l]? with
    |some (.loop .ready p QV ps aO c2)=>match ex body {st with H:=st.H.set l (.loop .busy p QV ps aO c2),low:=min st.low l}with
     |some (x,aF)=>match aF.H[l]? with
      |some (.loop _ _ aa8 QW rE QX)=>
       some (.bool (x=.normal),aF.H.set l (.loop (if x=.normal then .ready else .done) x aa8 QW rE QX),min aF.low l)
      | _=>none
     |none=>none
    | _=>none
   | _=>none
  else none
 | _=>none
def qy (aa:Nat->Option bY)(call:cU)(n:Nat):cU:=fun f args H=>
 match f with
 | .fn i first caps=>match aa i with
   |some (.code fn)=>fZ (exec call n) fn (first++args++caps) H
   |some (.ext spec)=>if bW (first++args++caps)then(spec (first++args++caps)).map fun v=>(v,H,H.length)else none
   |some (.zr spec)=>OQ spec (first++args++caps) H
   |none=>none
 | .yield l=>nZ (exec call n) l args H
 | _=>none
def cu (aa:Nat->Option bY):Nat->cU
 |0=>fun _ _ _=>none
 |n+1=>qy aa (cu aa n) n
end Go.Abs
namespace Go.Abs
open Go
mutual
def mC:Value->Option V
 | .bool b=>some (.bool b)
 | .int k n=>some (.int k n)
 | .string s=>some (.str s.data.toList)
 | .pointer none=>some .jb
 | .slice none 0 0=>some .cp
 | .map none=>some .iw
 | .nilFunc=>some .jV
 | .nilIface=>some .ig
 | .agg ⟨vs⟩=>(z8 vs).map .agg
 | .tuple ⟨[]⟩=>some .undef
 | _=>none
def z8:List Value->Option (List V)
 |[]=>some []
 |v::r=>match mC v with
  |some v'=>if ui v' then none else(z8 r).map (v':: ·)
  |none=>none
end
def dH{α β:Type}(f:α->Option β):List α->Option (List β)
 |[]=>some []
 |a::r=>match f a with
  |some b=>match dH f r with
   |some aI=>some (b::aI)
   |none=>none
  |none=>none
structure Ctx where
 P:Program
 FZ:Nat->Option Nat
 jc:String->Bool:=fun _=>true
 ag0:String->Bool:=fun _=>false
 raw:Nat->Bool:=fun _=>false
 e9:Nat->Option Obj:=fun _=>none
 Aa:List Nat:=[]
 OR:Option Nat:=none
 afE:Nat:=0
 ax8:String->Bool:=fun _=>false
namespace Ctx
variable (C:Ctx)
def sizeOf (t:Nat):Option Nat:=(C.P.info? t).map (·.size)
def zeroCells (t:Nat):Option (List V):=match C.P.info? t with
 |some i=>match i.zero with
  |some z=>match z8 z.cells.toList with
   |some vs=>if bS vs then some vs else none
   |none=>none
  |none=>none
 |none=>none
def mark (t:Nat):List V->List V
 |[.jb,.cp]=>bif C.OR==some t then[.undef,.cp]else[.jb,.cp]
 |z=>z
def zeroV (t:Nat):Option V:=match C.P.info? t with
 |some i=>match i.zero with
  |some z=>mC z
  |none=>none
 |none=>none
def shapeOf (t:Nat):Option (Option Nat):=match C.P.underlying t with
 |some (.struct _)|some (.array _ _)=>(C.sizeOf t).map some
 |some _=>some none
 |none=>none
def b3 (vars:List Nat):Operand->Option ag
 | .tmp t=>some (if vars.contains t then .var t else .tmp t)
 | .const v=>(mC v).map .const
 | .func f=>(C.FZ f).map .func
 | .global _=>none
def oN (vars:List Nat):Option Operand->Option (Option ag)
 |none=>some none
 |some x=>(C.b3 vars x).map some
def jd (t:Nat):Option Nat:=match C.P.underlying t with
 |some (.int _)=>some 0
 |some .string=>some 1
 |some .bool=>some 2
 | _=>none
def Cl (i:Nat):List Field->Option (List Nat)
 |[]=>some []
 |f::fs=>match C.jd f.type with
  |some k=>if f.name != "_" &&f.offset==i then(Cl (i+1) fs).map (k:: ·)else none
  |none=>none
def Ab (i:Nat):List Field->Option (List Nat)
 |[]=>some []
 |f::fs=>match C.jd f.type with
  |some k=>if f.name != "_" &&f.offset==i then(Ab (i+1) fs).map (k:: ·)else none
  |none=>match C.P.underlying f.type with
   |some (.struct gs)=>match C.Cl 0 gs.toList with
    |some ks=>if f.name != "_" &&f.offset==i&&!C.P.stoodInHeld f.type&&C.sizeOf f.type==some ks.length then(Ab (i+ks.length) fs).map (ks++ ·)else none
    |none=>none
   | _=>none
def structEq (t:Nat):Option (List Nat):=match C.P.underlying t with
 |some (.struct fs)=>if !C.P.stoodInHeld t&&!C.P.eqGuardType C.P.depth t then C.Ab 0 fs.toList else none
 | _=>none
def F0:ag->Bool
 | .const .ig=>true
 | _=>false
def xO (d:TypeDesc)(x y:ag)(plain:cH)(neg:Bool):Option cH:=
 match d with
 | .int _| .string=>some plain
 | .pointer _=>some (.pt 0 neg x y)
 | .slice _=>some (.pt 1 neg x y)
 | .func .. =>some (.pt 2 neg x y)
 | .interface _=>if F0 y then some (.pt 3 neg x y)else none
 | .bool=>some (.pt 4 neg x y)
 | _=>none
def builtin (vars:List Nat)(pos:String)(b:Builtin)(args:Array Operand)(ts:Array TypeId):Option cH:=
 match b,args.toList,ts.toList with
 | .len,[x],[t]=>match C.P.underlying t with
   |some .string=>(C.b3 vars x).map (.len 0)
   |some (.slice _)=>(C.b3 vars x).map (.len 1)
   |some (.map _ _)=>(C.b3 vars x).map (.len 2)
   | _=>none
 | .append,[a,b],[t,u]=>match C.P.underlying t,C.P.underlying u with
   |some (.slice e),some (.slice _)=>match C.P.info? e,C.b3 vars a,C.b3 vars b with
    |some i,some a,some b=>if i.size=0||i.zero.map (·.cells.size) != some i.size then none else some (if C.ag0 pos then .xC i.size i.bytes a b else .append i.size i.bytes a b)
    | _,_,_=>none
   |some (.slice e),some .string=>match C.P.info? e,C.b3 vars a,C.b3 vars b with
    |some i,some a,some b=>if i.size=1&&i.bytes==1&&i.zero.map (·.cells.size)==some 1 then some (if C.ax8 pos&&e==C.afE then .au6 a b else .Cj a b)else none
    | _,_,_=>none
   | _,_=>none
 | .delete,[m,k],[t,_]=>match C.P.underlying t,C.b3 vars m,C.b3 vars k with
   |some (.map ei _),some m,some k=>(C.jd ei).map fun bK=>.xK bK m k
   | _,_,_=>none
 | .recover,[],_=>none
 | .max,[a,b],_=>match C.b3 vars a,C.b3 vars b with
   |some a,some b=>some (.ug true a b)
   | _,_=>none
 | .copy,[a,b],[t,u]=>match C.P.underlying t,C.P.underlying u with
   |some (.slice e),some (.slice _)=>match C.sizeOf e,C.b3 vars a,C.b3 vars b with
    |some n,some a,some b=>if n=0 then none else some (.copy n a b)
    | _,_,_=>none
   | _,_=>none
 | .min,[a,b],_=>match C.b3 vars a,C.b3 vars b with
   |some a,some b=>some (.ug false a b)
   | _,_=>none
 | _,_,_=>none
def cI (vars:List Nat)(pos:String):Op->Option cH
 | .move x| .assign x=>(C.b3 vars x).map .mv
 | .pick c a b=>match C.b3 vars c,C.b3 vars a,C.b3 vars b with
   |some c,some a,some b=>some (.pick c a b)
   | _,_,_=>none
 | .alloc t=>(C.zeroCells t).map fun z=>.alloc (C.mark t z)
 | .box _ x=>(C.b3 vars x).map .box
 | .build t parts=>match C.P.underlying t,C.zeroCells t with
   |some (.struct fs),some z=>if fs.toList.any (fun f=>(C.sizeOf f.type).isNone)then none else(dH (fun(p:Nat × Operand)=>match fs[p.1]? with
     |some f=>match C.sizeOf f.type,C.b3 vars p.2 with
      |some n,some x=>some (f.offset,n,x)
      | _,_=>none
     |none=>none) parts.toList).map (.build z)
   |some (.array _ e),some z=>match C.sizeOf e with
    |some n=>(dH (fun(p:Nat × Operand)=>match C.b3 vars p.2 with
      |some x=>some (p.1*n,n,x)
      |none=>none) parts.toList).map (.build z)
    |none=>none
   | _,_=>none
 | .buildSlice t len parts=>match C.P.underlying t with
   |some (.slice e)=>match C.sizeOf e,C.zeroCells e,dH (fun(p:Nat × Operand)=>(C.b3 vars p.2).map fun x=>(p.1,x)) parts.toList with
    |some n,some z,some ps=>if n=0\/len*n>2^24\/z.length≠n then none else some (.lit n z len ps (match C.P.underlying e with|some (.func ..)=>false| _=>C.jc pos))
    | _,_,_=>none
   | _=>none
 | .load t a=>match C.shapeOf t,C.b3 vars a with
   |some sh,some a=>some (.load sh a)
   | _,_=>none
 | .store t a x=>match C.sizeOf t,C.b3 vars a,C.b3 vars x with
   |some n,some a,some x=>some (.store n a x)
   | _,_,_=>none
 | .nilCheck x=>(C.b3 vars x).map .nilCheck
 | .binOp o t x y _=>match C.b3 vars x,C.b3 vars y with
   |some x,some y=>match o,C.P.underlying t with
    | .eql,some (.struct _)=>(C.structEq t).map fun n=>.xJ false n x y
    | .neq,some (.struct _)=>(C.structEq t).map fun n=>.xJ true n x y
    | .eql,some d=>xO d x y (.bin .eql x y) false
    | .neq,some d=>xO d x y (.bin .neq x y) true
    | .eql,none| .neq,none=>none
    | _,_=>some (.bin o x y)
   | _,_=>none
 | .unOp o _ x=>(C.b3 vars x).map (.un o)
 | .convert s d x=>match C.P.underlying s,C.P.underlying d,C.b3 vars x with
   |some (.int _),some (.int k),some x=>some (.conv k x)
   |some (.slice e),some .string,some x=>match C.P.underlying e with
    |some (.int .u8)=>some (.uf x)
    | _=>none
   | _,_,_=>none
 | .makeInterface t x=>match C.P.underlying t,C.b3 vars x with
   |some (.interface _),_=>none
   |some _,some x=>some (.zZ t x)
   | _,_=>none
 | .makeFunc (.func f) a b=>match C.FZ f,dH (C.b3 vars) a.toList,dH (C.b3 vars) b.toList with
   |some i,some a,some b=>some (.sS i a b)
   | _,_,_=>none
 | .makeMap _ none=>some .mkMap
 | .makeSlice t l c=>match C.P.underlying t with
   |some (.slice e)=>match C.P.info? e,C.zeroCells e,C.b3 vars l,C.b3 vars c with
    |some i,some z,some l,some c=>if i.size=0\/z.length≠i.size then none else some (.mkSlice i.size z i.bytes l c)
    | _,_,_,_=>none
   | _=>none
 | .slice t x lo hi mx=>match C.P.underlying t,C.b3 vars x,C.oN vars lo,C.oN vars hi,C.oN vars mx with
   |some .string,some x,some lo,some hi,some none=>some (.oI x lo hi)
   |some (.slice e),some x,some lo,some hi,some mx=>match C.sizeOf e with
    |some n=>if n=0||(hi.isNone&&mx.isSome)then none else some (.pw n x lo hi mx)
    |none=>none
   | _,_,_,_,_=>none
 | .fieldAddr s x f=>match C.P.underlying s,C.b3 vars x with
   |some (.struct fs),some x=>match fs[f]? with
    |some aR=>match C.sizeOf aR.type with
     |some n=>if n=0 then none else some (.fieldAddr aR.offset x)
     |none=>none
    |none=>none
   | _,_=>none
 | .field s x f=>match C.P.underlying s,C.b3 vars x with
   |some (.struct fs),some x=>match fs[f]? with
    |some aR=>(C.shapeOf aR.type).map fun sh=>.field aR.offset sh x
    |none=>none
   | _,_=>none
 | .indexAddr t x i=>match C.P.underlying t,C.b3 vars x,C.b3 vars i with
   |some (.slice e),some x,some i=>match C.sizeOf e with
    |some n=>if n=0 then none else some (.indexAddr n x i)
    |none=>none
   | _,_,_=>none
 | .index t x i=>match C.P.underlying t,C.b3 vars x,C.b3 vars i with
   |some .string,some x,some i=>some (.qw x i)
   | _,_,_=>none
 | .lookup t x i ok=>match C.P.underlying t,C.b3 vars x,C.b3 vars i with
   |some (.map k e),some x,some i=>match C.jd k,C.zeroV e with
    |some bK,some z=>if ui z then none else some (.lookup bK z x i ok)
    | _,_=>none
   | _,_,_=>none
 | .mapUpdate t m k v=>match C.P.underlying t,C.b3 vars m,C.b3 vars k,C.b3 vars v with
   |some (.map ei _),some m,some k,some v=>(C.jd ei).map fun bK=>.px bK m k v
   | _,_,_,_=>none
 | .insert t m k v=>match C.P.underlying t,C.b3 vars m,C.b3 vars k,C.b3 vars v with
   |some (.map ei _),some m,some k,some v=>(C.jd ei).map fun bK=>.px bK m k v
   | _,_,_,_=>none
 | .extract x i=>(C.b3 vars x).map fun x=>.extract x i
 | .call {callee:=.value f,args,.. }=>match C.b3 vars f,dH (C.b3 vars) args.toList with
   |some f,some aO=>some (.call (match f with| .func i=>C.raw i| _=>false) f aO)
   | _,_=>none
 | .call {callee:=.builtin b,args,argTypes}=>C.builtin vars pos b args argTypes
 | _=>none
def op (vars:List Nat)(pos:String)(o:Op):cH:=(C.cI vars pos o).getD .fail
def guard (vars:List Nat)(ops:Array Oper):Option (Nat × Bool)->Option (Option (ag × Bool))
 |none=>some none
 |some (j,want)=>match(ops[j]?).bind (·.dst)with
  |some d=>some (some (if vars.contains d then .var d else .tmp d,want))
  |none=>none
def oper (vars:List Nat)(n:Nat)(ops:Array Oper)(o:Oper):Option bO:=
 match guard vars ops o.guard with
 |some g=>match o.dst with
  |none=>some {dst:=none,op:=C.op vars o.pos o.op,guard:=g}
  |some d=>if d<n then some {dst:=some (d,vars.contains d),op:=C.op vars o.pos o.op,guard:=g}else none
 |none=>none
def xP (ops:Array Oper):Bool:=
 ops.toList.zipIdx.all fun(o,i)=>o.after.all fun e=>match e.ground with| .gcOnly _=>true| _=>decide (e.on<i)
def tmpsOf (xs:Array Operand):List Nat:=xs.toList.filterMap fun| .tmp t=>some t| _=>none
def fq (ops:Array Oper)(o:Oper):List Nat:=
 tmpsOf o.op.operands++(match o.guard with|some (j,_)=>((ops[j]?).bind (·.dst)).toList|none=>[])
def xQ (ops:Array Oper):Bool:=
 let b:=CheckFast.beforeF ops
 ops.toList.zipIdx.all fun(o,j)=>ops.toList.zipIdx.all fun(p,i)=>
  match p.dst with
  |none=>true
  |some d=>i==j||!(o.dst==some d||(fq ops o).contains d)||(b.getD (max i j) 0).testBit (min i j)
def wo (ops:Array Oper)(o:Oper)(a:bO):Bool:=
 a.op.operands.all fun
   | .tmp t| .var t=>(fq ops o).contains t
   | _=>true
def Kv (vars:List Nat)(n:Nat)(ops:Array Oper):Option cj:=match C.Aa,ops.toList.getLast? with
 |[],_=>none
 | _,some gW=>match gW.op,gW.guard with
   | .defer {callee:=.value f,args,.. },none=>match args.toList,dH (C.oper vars n ops) ops.toList.dropLast,C.b3 vars f with
     |[],some bz,some lS=>if gW.dst.isNone then some (.xL bz C.Aa lS)else none
     | _,_,_=>none
   | _,_=>none
 | _,none=>none
def code (vars:List Nat)(n:Nat):Code->Option cj
 | .skip=>some .skip
 | .region _ ops draw=>match(if draw then none else C.Kv vars n ops)with
   |some r=>some r
   |none=>match dH (C.oper vars n ops) ops.toList with
    |some bz=>if !draw then some (.region bz none)
    else if xP ops&&xQ ops&&(ops.toList.zip bz).all (fun(o,a)=>wo ops o a)then some (.region bz (some (CheckFast.beforeF ops).toList))else none
    |none=>none
 | .seq a b=>match code vars n a,code vars n b with
   |some a,some b=>some (.seq a b)
   | _,_=>none
 | .cond c t e=>match C.b3 vars c,code vars n t,code vars n e with
   |some c,some t,some e=>some (.cond c t e)
   | _,_,_=>none
 | .block id c=>(code vars n c).map (.block id)
 | .loop c=>(code vars n c).map .loop
 | .rangeFunc f ps a b=>match C.b3 vars f,code vars n a,code vars n b with
   |some f,some a,some b=>if ps.all (fun t=>decide (t<n)&&vars.contains t)then some (.rangeFunc f ps.toList a b)else none
   | _,_,_=>none
 | .exit id=>some (.exit id)
 | .ret=>some .ret
 | _=>some .fail
def wq:Code->List Nat
 | .region _ ops _=>(ops.toList.foldl (fun(acc:List Nat × List Nat) o=>
  let g:=match o.guard with|some (j,_)=>((ops[j]?).bind (·.dst)).toList|none=>[]
  let reads:=(g++tmpsOf o.op.operands).filter fun t=>!acc.2.contains t
  (acc.1++reads,o.dst.toList++acc.2)) ([],[])).1
 | .seq a b=>wq a++wq b
 | .cond c t e=>tmpsOf #[c]++wq t++wq e
 | .block _ c| .loop c=>wq c
 | .rangeFunc f ps a b=>tmpsOf #[f]++ps.toList++wq a++wq b
 | _=>[]
def res:ResultVar->Option mB
 | .tmp t=>some (.tmp t)
 | .cell a t=>(C.shapeOf t).map (.cell a)
def qz:List ResultVar->List Nat
 |[]=>[]
 | .tmp t::r=>t::qz r
 | .cell a _::r=>a::qz r
def varsOf (f:Func):List Nat:=
 ((List.range (f.params.size+f.nfree)++qz f.results.toList++(match f.body with|some c=>wq c|none=>[])).eraseDups)
def func (f:Func)(fresh:Bool):Option h3:=
 match f.body with
 |some c=>match C.code (varsOf f) f.ntmps c,dH C.res f.results.toList with
  |some b,some rs=>if f.name== "runtime.NumGoroutine" then none else some {xM:=f.ntmps,body:=b,results:=rs,fresh}
  | _,_=>none
 |none=>none
end Ctx
end Go.Abs
