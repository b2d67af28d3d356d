/- Texts of this claim, joined and written short by a program. -/
import Derived.Calls
import Derived.CheckFast
set_option linter.unusedVariables false
set_option linter.unusedSimpArgs false
set_option linter.unusedSectionVars false
namespace Go.Abs
set_option linter.defProp false
def aA := @Option.some.injEq
def aK := @Option.bind_some
def aM := @Nat.le_refl
def cG := @Option.map_eq_some_iff
def ca := @Bool.and_eq_true
def bC := @Prod.mk.injEq
def dT := @Option.bind_eq_some_iff
def fF := @List.getElem?_eq_some_iff
def dE := @List.length_cons
def e8 := @Nat.eq_of_beq_eq_true
def e0 := @List.mem_of_getElem?
def gM := @List.getElem?_append_left
def cI := @Nat.zero_le
def e1 := @List.length_append
def dc := @Nat.le_trans
def jm := @List.mem_zipIdx_iff_getElem?
def dC := @Bool.true_and
def ew := @List.prefix_rfl
def eV := @List.all_eq_true
def dL := @List.mem_cons
def eF := @List.length_nil
def jI := @List.getElem?_eq_getElem
def gN := @Bool.false_eq_true
def hJ := @Array.length_toList
def eG := @List.map_cons
def iX := @Array.getElem?_toList
def eR := @List.cons.inj
def er := @Nat.zero_add
def h6 := @List.prefix_append
def eM := @List.mem_map
def fQ := @Bool.not_true
def lg := @List.mem_cons_of_mem
def jJ := @List.append_assoc
def ma := @Nat.le_of_ble_eq_true
def lG := @List.getElem?_set_ne
def n4 := @List.getElem?_cons_zero
def n5 := @Nat.exists_eq_add_of_le
def gq := @Nat.lt_or_ge
def nt := @List.getElem?_eq_none
def oM := @List.all_eq_not_any_not
def jn := @List.length_map
def kR := @List.getElem?_map
def qm := @List.drop_eq_getElem_cons
def ky := @List.cons_append
def jK := @Nat.min_le_left
def ke := @List.nil_append
def lH := @List.flatMap_cons
def oN := @List.mem_iff_getElem?
def kz := @Bool.or_eq_true
def mb := @Bool.not_eq_true'
def kS := @List.mem_append
def pB := @List.mem_append_right
def lh := @List.map_append
def tt := @Array.getElem?_eq_some_iff
def mc := @List.length_take
def qn := @List.map_congr_left
def w4 := @Array.getD_eq_getD_getElem?
def r9 := @List.getElem?_toArray
def w5 := @List.getElem?_append_right
def tu := @List.getElem?_set_self
def qo := @List.mem_cons_self
def mU := @Bool.not_false
def n6 := @Nat.min_eq_left
def rj := @Nat.lt_of_lt_of_le
def uV := @List.drop_eq_nil_of_le
def pC := @Nat.min_le_right
def pD := @List.length_drop
def sa := @List.mem_map_of_mem
def yn := @List.getD_eq_getElem?_getD
def uW := @List.contains_iff_mem
def me := @List.map_nil
def uX := @Bool.or_eq_false_iff
def sb := @List.Sublist.refl
def yo := @List.length_eq_zero_iff
def w6 := @List.length_replicate
def Bc := @List.getElem?_zip_eq_some
def w7 := @List.mem_append_left
def sc := @Nat.le_max_right
def sd := @List.any_eq_true
def rk := @List.append_nil
def tv := @List.take_add_one
def Bd := @List.getElem?_cons_succ
def tw := @Nat.min_eq_right
def uY := @List.size_toArray
def DE := @List.sublist_append_right
def qp := @Bool.false_or
def tx := @Nat.le_max_left
def tz := @Option.map_some
def uZ := @List.range'_succ
def rl := @Nat.add_assoc
def DF := @Int.eq_ofNat_of_zero_le
def Be := @List.mem_of_mem_take
def qq := @Nat.ne_of_lt
def tA := @List.drop_drop
def w8 := @Option.getD_some
def w9 := @List.getElem_mem
def yp := @List.ext_getElem?
def yq := @Array.size_append
def xa := @List.cons.injEq
def xb := @List.foldl_cons
def xc := @List.nodup_cons
def se := @Nat.le_of_lt
def sf := @List.map_map
def yr := @Nat.lt_succ_self
def ys := @List.not_mem_nil
def sg := @Nat.min_self
def HU := @Array.getElem?_eq_none
def DG := @List.replicate_succ
def Bf := @Int.toNat_natCast
def Bg := @List.nodup_append
def TH := @Array.getElem?_setIfInBounds_ne
def u0 := @Bool.and_true
def yt := @List.length_set
def yu := @Option.map_none
def yv := @Option.some.inj
def DH := @List.mem_singleton
def DI := @List.zip_cons_cons
def si := @Nat.add_mul
def Bh := @List.take_length
def HV := @List.mem_of_mem_drop
def HW := @List.range_eq_range'
def xd := @Bool.and_self
def yw := @Bool.false_and
def Bi := @Bool.eq_iff_iff
def MV := @List.take_of_length_le
def MW := @List.drop_of_length_le
def lj := @Ne.symm
def DJ := @List.map_toArray
def MX := @List.take_append_drop
def HX := @List.getElem?_take
def HY := @Nat.add_right_comm
def HZ := @List.pairwise_cons
def TI := @List.pairwise_iff_getElem
def MY := @Nat.mul_le_mul_right
def af5 := @Array.toList_eraseIdxIfInBounds
def H3 := @List.flatten_cons
def yx := @Nat.add_zero
def af6 := @Array.eq_empty_of_size_eq_zero
def MZ := @List.toList_toArray
def M0 := @List.flatMap_append
def M1 := @List.filterMap_cons
def H4 := @List.drop_append
def H5 := @List.mem_flatMap
def H6 := @Nat.max_eq_right
def H7 := @List.getElem_map
def DK := @Bool.and_assoc
def M3 := @List.set_cons_zero
def M4 := @Nat.pos_of_ne_zero
def Bj := @Bool.or_self
def H8 := @Nat.max_eq_left
def Bk := @Nat.beq_refl
def M5 := @Nat.lt_succ_of_lt
def M6 := @Bool.not_eq_false
def af7 := @Array.getElem?_append_left
def af8 := @Int.tmod_eq_emod_of_nonneg
def TJ := @List.set_append_left
def TK := @List.replicate_succ'
def TL := @List.pairwise_append
def TM := @List.getElem?_of_mem
def H9 := @List.nodup_nil
def af9 := @Array.filter_eq_empty_iff
def Ia := @Int.mul_le_mul
def M7 := @Nat.le_add_right
def TN := @List.drop_succ_cons
def TP := @List.length_pos_iff
def TQ := @List.length_reverse
def DL := @Nat.succ_mul
def TR := @List.getElem?_drop
def TS := @List.set_cons_succ
def TT := @Array.foldl_toList
def TU := @Nat.eq_zero_or_pos
def aga := @List.eraseIdx_cons_zero
def agb := @List.eraseIdx_cons_succ
def TV := @List.mem_filterMap
def Ib := @Bool.or_false
def M8 := @List.find?_cons
def TW := @List.findIdx?_cons
def agc := @Array.contains_iff_mem
def DM := @Nat.le_succ
def TX := @Array.toList_push
def TY := @List.any_eq_false
def M9 := @List.mem_range
def Ic := @Bool.or_true
def Ie := @Bool.true_or
def Na := @List.all_cons
def DN := @Go.Calls.mono
inductive V where
 |bool (b:Bool)
 |int (k:IntKind) (n:Int)
 |str (s:List UInt8)
 |aY
 |emp
 |list (es:Nat) (ds:List V)
 |agg (vs:List V)
 |bd (vs:List V)
 |iY
 |ptr (l o:Nat)
 |hg (l es i f tag:Nat)
 |dW (vs:List V) (f:Nat)
 |b7 (l es off len tag:Nat)
 |h7
 |map (l:Nat)
 |kA
 |fn (i:Nat) (first caps:List V)
 |yield (l:Nat)
 |jL
 |iface (t:Nat) (v:V)
 |undef
 deriving Inhabited
inductive aj where
 |tmp (t:Nat)
 |var (t:Nat)
 |const (v:V)
 |func (i:Nat)
 deriving Inhabited
inductive cS where
 |mv (x:aj)
 |pick (c a b:aj)
 |alloc (z:List V)
 |box (x:aj)
 |build (z:List V) (parts:List (Nat × Nat × aj))
 |lit (es:Nat) (z:List V) (len:Nat) (parts:List (Nat × aj)) (jM:Bool)
 |load (sh:Option Nat) (x:aj)
 |store (n:Nat) (a x:aj)
 |nilCheck (x:aj)
 |bin (op:BinOp) (x y:aj)
 |yy (neg:Bool) (ks:List Nat) (x y:aj)
 |rm (kind:Nat) (neg:Bool) (x y:aj)
 |un (op:UnOp) (x:aj)
 |conv (k:IntKind) (x:aj)
 |Bl (t:Nat) (x:aj)
 |tB (i:Nat) (first caps:List aj)
 |mkMap
 |mkSlice (es:Nat) (z:List V) (bytes:Nat) (l c:aj)
 |qs (x:aj) (lo hi:Option aj)
 |tC (es:Nat) (x:aj) (lo hi mx:Option aj)
 |fieldAddr (off:Nat) (x:aj)
 |field (off:Nat) (sh:Option Nat) (x:aj)
 |indexAddr (es:Nat) (x i:aj)
 |rn (x i:aj)
 |lookup (kind:Nat) (z:V) (x i:aj) (ok:Bool)
 |qt (kind:Nat) (m k v:aj)
 |yz (kind:Nat) (m k:aj)
 |DP (a b:aj)
 |DQ (a b:aj)
 |qu (x:aj)
 |extract (x:aj) (i:Nat)
 |len (kind:Nat) (x:aj)
 |append (es bytes:Nat) (a b:aj)
 |xe (es bytes:Nat) (a b:aj)
 |u1 (mx:Bool) (x y:aj)
 |copy (es:Nat) (a b:aj)
 |call (raw:Bool) (f:aj) (args:List aj)
 |fail
 deriving Inhabited
structure bP where
 dst:Option (Nat × Bool)
 op:cS
 guard:Option (aj × Bool)
 deriving Inhabited
inductive b8 where
 |skip
 |region (ops:List bP) (eh:Option (List Nat))
 |yA (ops:List bP) (ok:List Nat) (f:aj)
 |seq (a b:b8)
 |cond (c:aj) (t e:b8)
 |block (id:Nat) (body:b8)
 |loop (body:b8)
 |rangeFunc (f:aj) (params:List Nat) (assign body:b8)
 |exit (id:Nat)
 |ret
 |fail
 deriving Inhabited
inductive mV where
 |tmp (t:Nat)
 |cell (a:Nat) (sh:Option Nat)
 deriving Inhabited
structure hh where
 xf:Nat
 body:b8
 results:List mV
 fresh:Bool
 deriving Inhabited
abbrev Env:=List (Nat × V)
inductive X where
 |normal
 |exit (id:Nat)
 |ret
 deriving DecidableEq,Inhabited
inductive cD where
 |cells (vs:List V)
 |row (es:Nat) (ds:List V) (ej:Bool)
 |map (bs:List (V × V))
 |loop (st:LoopState) (tD:X) (env:Env) (params:List Nat) (assign body:b8)
 |sj (s:List UInt8)
 |dead (n:Nat)
 |gone
 deriving Inhabited
abbrev Heap:=List cD
structure au where
 aG:Env
 aw:Env
 H:Heap
 low:Nat
 ro:Option Nat:=none
 deriving Inhabited
def aF:V->List V
 | .agg vs=>vs
 |v=>[v]
mutual
def bQ:V->Bool
 | .bool _| .int _ _| .str _| .aY| .emp| .list _ _| .iY| .h7| .kA| .jL=>true
 | .agg vs| .bd vs=>cx vs
 | .iface _ v=>bQ v
 | .fn _ a b=>cx a&&cx b
 | _=>false
def cx:List V->Bool
 |[]=>true
 |v::r=>bQ v&&cx r
end
mutual
def flat:V->Bool
 | .bool _| .int _ _| .str _| .aY| .emp| .iY| .h7| .kA| .jL=>true
 | .agg vs| .bd vs=>u2 vs
 | _=>false
def u2:List V->Bool
 |[]=>true
 |v::r=>flat v&&u2 r
end
mutual
def old (n:Nat):V->Bool
 | .ptr l _| .hg l _ _ _ _| .b7 l _ _ _ _| .map l| .yield l=>decide (l<n)
 | .agg vs| .bd vs=>olds n vs
 | .fn _ a b=>olds n a&&olds n b
 | .iface _ v=>old n v
 | .undef=>false
 | _=>true
def olds (n:Nat):List V->Bool
 |[]=>true
 |v::r=>old n v&&olds n r
end
def u3:V->Bool
 | .undef=>true
 | _=>false
def iq (cs:List V)(o:Nat):Option Nat->Option V
 |none=>cs[o]?
 |some n=>if o+n<=cs.length then some (.agg ((cs.drop o).take n))else none
def setCells (cs:List V)(o:Nat):List V->List V
 |[]=>cs
 |x::xs=>setCells (cs.set o x) (o+1) xs
def bR:Env->Nat->V
 |[],_=>.undef
 |(k,v)::r,t=>if k=t then v else bR r t
def fN:Env->Nat->V->Env
 |[],t,v=>[(t,v)]
 |(k,u)::r,t,v=>if k=t then(k,v)::r else(k,u)::fN r t v
def aj.ai (aG aw:Env):aj->V
 | .tmp t=>bR aG t
 | .var t=>bR aw t
 | .const v=>v
 | .func i=>.fn i [] []
def jN (H:Heap)(sh:Option Nat):V->Option V
 | .ptr l o=>match H[l]? with
   |some (.cells vs)=>iq vs o sh
   | _=>none
 | .hg l es i f tag=>match H[l]? with
   |some (.row bN ds _)=>if bN=es/\ds.length=tag then(ds[i]?).bind fun d=>iq (aF d) f sh else none
   | _=>none
 | .dW vs f=>iq vs f sh
 | _=>none
def xg (d:V)(f:Nat)(xs:List V):Option V:=
 match d with
 | .agg vs=>if f+xs.length<=vs.length then some (.agg (setCells vs f xs))else none
 | _=>match f,xs with
   |0,[x]=>some x
   | _,_=>none
def eH:V->Bool
 | .agg _| .bd _| .undef=>false
 | _=>true
def bX:List V->Bool
 |[]=>true
 |v::r=>eH v&&bX r
def plainCell:V->Bool
 | .agg _| .bd _| .undef| .dW .. | .hg .. =>false
 | _=>true
def mf:List V->Bool
 |[]=>true
 |v::r=>plainCell v&&mf r
def jO (H:Heap)(n:Nat)(a v:V):Option (Heap × Nat):=
 match a with
 | .ptr l o=>match H[l]? with
   |some (.cells vs)=>if(aF v).length=n/\o+n<=vs.length/\bX (aF v)=true then some (H.set l (.cells (setCells vs o (aF v))),l)else none
   | _=>none
 | .hg l es i f tag=>match H[l]? with
   |some (.row bN ds false)=>
    if bN=es/\ds.length=tag/\(aF v).length=n/\mf (aF v)=true then
     match ds[i]? with
     |some d=>match xg d f (aF v)with
      |some d'=>some (H.set l (.row es (ds.set i d') false),l)
      |none=>none
     |none=>none
    else none
   | _=>none
 | _=>none
def kT (f:Heap->Nat->V->Option (V × Heap × Nat))(H:Heap)(low:Nat):List V->Option (List V × Heap × Nat)
 |[]=>some ([],H,low)
 |v::r=>match f H low v with
  |some (v',H1,bS)=>match kT f H1 bS r with
   |some (nu,H2,dM)=>some (v'::nu,H2,dM)
   |none=>none
  |none=>none
def ei:Nat->Heap->Nat->V->Option (V × Heap × Nat)
 |0,H,low,v=>if bQ v then some (v,H,low)else none
 |n+1,H,low,v=>
  if bQ v then some (v,H,low)else
  match v with
  | .agg vs=>match kT (ei n) H low vs with
    |some (vs',H',low')=>some (.agg vs',H',low')
    |none=>none
  | .bd vs=>match kT (ei n) H low vs with
    |some (vs',H',low')=>some (.bd vs',H',low')
    |none=>none
  | .b7 l es off len tag=>match H[l]? with
    |some (.row bN ds ej)=>
     if bN=es/\ds.length=tag/\off+len<=ds.length then
      if cx ds=true then some (.list es ((ds.drop off).take len),if ej then H else H.set l (.row es ds true),if ej then low else min low l)
      else match kT (ei n) H low ds with
       |some (ds',H',low')=>match H'[l]? with
        |some (.row TZ Nb false)=>
         if TZ=es/\Nb.length=tag/\cx ds'=true then some (.list es ((ds'.drop off).take len),H'.set l (.row es ds' true),min low' l)else none
        | _=>none
       |none=>none
     else none
    | _=>none
  |v=>some (v,H,low)
def fR (H:Heap)(low:Nat)(v:V):Option (V × Heap × Nat):=ei 16 H low v
def e4 (H:Heap)(low:Nat):List V->Option (List V × Heap × Nat)
 |[]=>some ([],H,low)
 |v::r=>match fR H low v with
  |some (v',H1,bS)=>match e4 H1 bS r with
   |some (nu,H2,dM)=>some (v'::nu,H2,dM)
   |none=>none
  |none=>none
def elems (H:Heap)(es:Nat):V->Option (List V)
 | .aY| .emp=>some []
 | .list bN ds=>if bN=es then some ds else none
 | .b7 l bN off len tag=>match H[l]? with
   |some (.row fl ds _)=>if bN=es/\fl=es/\ds.length=tag/\off+len<=ds.length then some ((ds.drop off).take len)else none
   | _=>none
 | _=>none
def pE:V->Option Bool
 | .bool b=>some b
 | _=>none
def kU:V->Option Nat
 | .int _ n=>if 0<=n then some n.toNat else none
 | _=>none
def et (op:BinOp)(x y:V):Option V:=
 match op,x,y with
 | .shl,.int k a,.int _ b=>if 0<=b/\b.toNat<=k.bits then some (.int k (k.wrap (a*2^b.toNat)))else none
 | .shr,.int k a,.int _ b=>if 0<=b/\b.toNat<=k.bits then some (.int k (a/2^b.toNat))else none
 |op,.int k a,.int bE b=>
  if k≠bE then none else
  match op with
  | .add=>some (.int k (k.wrap (a+b)))
  | .sub=>some (.int k (k.wrap (a-b)))
  | .mul=>some (.int k (k.wrap (a*b)))
  | .quo=>if b=0 then none else some (.int k (k.wrap (a.tdiv b)))
  | .rem=>if b=0 then none else some (.int k (a.tmod b))
  | .eql=>some (.bool (a==b))
  | .neq=>some (.bool (a != b))
  | .lss=>some (.bool (decide (a<b)))
  | .leq=>some (.bool (decide (a<=b)))
  | .gtr=>some (.bool (decide (a>b)))
  | .geq=>some (.bool (decide (a>=b)))
  | .and=>some (.int k (k.wrap ((BitVec.ofInt k.bits a &&& BitVec.ofInt k.bits b).toNat)))
  | _=>none
 | .add,.str a,.str b=>if a.length+b.length<=2^40 then some (.str (a++b))else none
 | .eql,.str a,.str b=>some (.bool (a==b))
 | .neq,.str a,.str b=>some (.bool (a != b))
 | _,_,_=>none
def qv (kind:Nat)(x y:V):Option Bool:=
 match kind,x,y with
 |0,.iY,.iY=>some true
 |0,.ptr _ _,.iY|0,.iY,.ptr _ _=>some false
 |1,.aY,.aY=>some true
 |1,.emp,.aY|1,.list _ _,.aY|1,.b7 _ _ _ _ _,.aY=>some false
 |2,.kA,.kA=>some true
 |2,.fn _ _ _,.kA=>some false
 |3,.jL,.jL=>some true
 |3,.iface _ _,.jL=>some false
 |4,.bool a,.bool b=>some (a==b)
 | _,_,_=>none
def pF (op:UnOp)(x:V):Option V:=
 match op,x with
 | .neg,.int k n=>some (.int k (k.wrap (0-n)))
 | .not,.bool b=>some (.bool !b)
 | _,_=>none
def iZ:Nat->V->V->Option Bool
 |0,.int k a,.int bE b=>if k=bE then some (a==b)else none
 |1,.str a,.str b=>some (a==b)
 |2,.bool a,.bool b=>some (a==b)
 | _,_,_=>none
def kB:List Nat->List V->List V->Option Bool
 |[],[],[]=>some true
 |k::ks,a::x,b::y=>match iZ k a b with
  |some e=>match kB ks x y with
   |some e'=>some (e&&e')
   |none=>none
  |none=>none
 | _,_,_=>none
def iu (kind:Nat)(k:V):List (V × V)->Option (Option V)
 |[]=>some none
 |(bE,v)::r=>match iZ kind k bE with
  |some true=>some (some v)
  |some false=>iu kind k r
  |none=>none
def lI (kind:Nat)(k v:V):List (V × V)->List (V × V)
 |[]=>[(k,v)]
 |(bE,u)::r=>if iZ kind k bE=some true then(k,v)::r else(bE,u)::lI kind k v r
def ja (kind:Nat)(k:V):List (V × V)->List (V × V)
 |[]=>[]
 |(bE,u)::r=>if iZ kind k bE=some true then r else(bE,u)::ja kind k r
def bytesOf:List V->Option (List UInt8)
 |[]=>some []
 | .int .u8 n::r=>(bytesOf r).map (UInt8.ofNat n.toNat:: ·)
 | _=>none
def u4 (cs:List V):List (Nat × Nat × V)->Option (List V)
 |[]=>some cs
 |(off,n,v)::r=>if(aF v).length=n/\off+n<=cs.length/\bX (aF v)=true then u4 (setCells cs off (aF v)) r else none
def qw (es:Nat)(ds:List V):List (Nat × V)->Option (List V)
 |[]=>some ds
 |(i,v)::r=>if(aF v).length=es/\i<ds.length/\bX (aF v)=true then qw es (ds.set i v) r else none
def lJ (z:List V):V:=match z with|[x]=>x| _=>.agg z
def e5 (ai:aj->V)(Nc:Nat):Option aj->Option Nat
 |none=>some Nc
 |some x=>kU (ai x)
def step (ai:aj->V)(H:Heap)(low:Nat):cS->Option (V × Heap × Nat)
 | .mv x=>some (ai x,H,low)
 | .pick c a b=>(pE (ai c)).map fun t=>(if t then ai a else ai b,H,low)
 | .alloc z=>some (.ptr H.length 0,H++[.cells z],low)
 | .box x=>if bX (aF (ai x))then some (.ptr H.length 0,H++[.cells (aF (ai x))],low)else none
 | .build z parts=>(u4 z (parts.map fun p=>(p.1,p.2.1,ai p.2.2))).map fun cs=>(.agg cs,H,low)
 | .lit es z len parts jM=>match e4 H low (parts.map fun p=>ai p.2)with
   |some (vs,H',low')=>match qw es (List.replicate len (lJ z)) ((parts.zip vs).map fun(p,v)=>(p.1,v))with
    |some ds=>
     if jM then(if cx ds then some (if len=0 then .emp else .list es ds,H',low')else none)
     else if len=0 then some (.emp,H',low')else some (.b7 H'.length es 0 len len,H'++[.row es ds false],low')
    |none=>none
   |none=>none
 | .load sh x=>(jN H sh (ai x)).map fun v=>(v,H,low)
 | .store n a x=>(jO H n (ai a) (ai x)).map fun(H',l)=>(.undef,H',min low l)
 | .nilCheck x=>match ai x with
   | .ptr l o=>some (.ptr l o,H,low)
   | .hg l es i f tag=>some (.hg l es i f tag,H,low)
   | .dW vs f=>some (.dW vs f,H,low)
   | .fn i a b=>some (.fn i a b,H,low)
   | _=>none
 | .bin op x y=>(et op (ai x) (ai y)).map fun v=>(v,H,low)
 | .yy neg ks x y=>match ai x,ai y with
   | .agg a,.agg b=>(kB ks a b).map fun e=>(.bool (if neg then !e else e),H,low)
   | _,_=>none
 | .rm kind neg x y=>(qv kind (ai x) (ai y)).map fun e=>(.bool (if neg then !e else e),H,low)
 | .un op x=>(pF op (ai x)).map fun v=>(v,H,low)
 | .conv k x=>match ai x with
   | .int _ n=>some (.int k (k.wrap n),H,low)
   | _=>none
 | .Bl t x=>match fR H low (ai x)with
   |some (v,H',low')=>some (.iface t v,H',low')
   |none=>none
 | .tB i a b=>some (.fn i (a.map ai) (b.map ai),H,low)
 | .mkMap=>some (.map H.length,H++[.map []],low)
 | .mkSlice es z bytes l c=>match ai l,ai c with
   | .int _ n,.int _ m=>if n=m/\0<=n/\n*(bytes+1)<=2^40 then
     (if n=0 then some (.emp,H,low)else
       some (.b7 H.length es 0 n.toNat n.toNat,H++[.row es (List.replicate n.toNat (lJ z)) false],low))else none
   | _,_=>none
 | .qs x lo hi=>match ai x with
   | .str s=>match e5 ai 0 lo,e5 ai s.length hi with
     |some a,some b=>if a<=b/\b<=s.length then some (.str ((s.take b).drop a),H,low)else none
     | _,_=>none
   | _=>none
 | .tC es x lo hi mx=>match ai x with
   | .aY=>match e5 ai 0 lo,e5 ai 0 hi,e5 ai 0 mx with
     |some 0,some 0,some 0=>some (.aY,H,low)
     | _,_,_=>none
   | .emp=>match e5 ai 0 lo,e5 ai 0 hi,e5 ai 0 mx with
     |some 0,some 0,some 0=>some (.emp,H,low)
     | _,_,_=>none
   | .list bN ds=>match e5 ai 0 lo,e5 ai ds.length hi with
     |some a,some b=>if a<=b/\b<=ds.length/\bN=es then
       match mx with
       |none=>some (.list es ((ds.take b).drop a),H,low)
       |some m=>if kU (ai m)=some 0/\b=0 then some (.emp,H,low)else none
      else none
     | _,_=>none
   | .b7 l bN off len tag=>match e5 ai 0 lo,e5 ai len hi with
     |some a,some b=>if a<=b/\b<=len/\bN=es then
       match mx with
       |none=>match H[l]? with
        |some (.row fl ds _)=>if ds.length=tag/\fl=es then(if a<b then some (.b7 l es (off+a) (b-a) tag,H,low)else some (.list es [],H,low))else none
        | _=>none
       |some m=>if kU (ai m)=some 0/\b=0 then some (.emp,H,low)else none
      else none
     | _,_=>none
   | _=>none
 | .fieldAddr off x=>match ai x with
   | .ptr l o=>some (.ptr l (o+off),H,low)
   | .hg l es i f tag=>some (.hg l es i (f+off) tag,H,low)
   | .dW vs f=>some (.dW vs (f+off),H,low)
   | _=>none
 | .field off sh x=>match ai x with
   | .agg vs=>(iq vs off sh).map fun v=>(v,H,low)
   | _=>none
 | .indexAddr es x i=>match kU (ai i)with
   |some i=>match ai x with
    | .list bN ds=>if bN=es then(ds[i]?).map fun d=>(.dW (aF d) 0,H,low)else none
    | .b7 l bN off len tag=>match H[l]? with
      |some (.row fl ds _)=>if bN=es/\fl=es/\ds.length=tag/\i<len/\off+len<=ds.length then some (.hg l es (off+i) 0 tag,H,low)else none
      | _=>none
    | _=>none
   |none=>none
 | .rn x i=>match ai x,kU (ai i)with
   | .str s,some i=>(s[i]?).map fun c=>(.int .u8 c.toNat,H,low)
   | _,_=>none
 | .lookup kind z x i ok=>match ai x with
   | .h7=>some (if ok then .bd [z,.bool false]else z,H,low)
   | .map l=>match H[l]? with
     |some (.map bs)=>match iu kind (ai i) bs with
      |some (some v)=>some (if ok then .bd [v,.bool true]else v,H,low)
      |some none=>some (if ok then .bd [z,.bool false]else z,H,low)
      |none=>none
     | _=>none
   | _=>none
 | .qt kind m k v=>match fR H low (ai v)with
   |some (v',H',low')=>if u3 v' then none else match ai m with
    | .map l=>match H'[l]? with
      |some (.map bs)=>match iu kind (ai k) bs with
       |some _=>some (.undef,H'.set l (.map (lI kind (ai k) v' bs)),min low' l)
       |none=>none
      | _=>none
    | _=>none
   |none=>none
 | .yz kind m k=>match ai m with
   | .h7=>some (.bd [],H,low)
   | .map l=>match H[l]? with
     |some (.map bs)=>match iu kind (ai k) bs with
      |some _=>some (.bd [],H.set l (.map (ja kind (ai k) bs)),min low l)
      |none=>none
     | _=>none
   | _=>none
 | .DP a b=>match ai b with
   | .str s=>
     if s.isEmpty then
      match ai a with
      | .aY=>some (.aY,H,low)
      | .emp=>some (.emp,H,low)
      | .b7 l bN off len tag=>match H[l]? with
        |some (.row _ ds _)=>if ds.length=tag then some (.b7 l bN off len tag,H,low)else none
        | _=>none
      | _=>none
     else
      let xs:List V:=s.map fun c=>.int .u8 c.toNat
      match ai a with
      | .aY=>if xs.length*2<=2^40 then some (.b7 H.length 1 0 xs.length xs.length,H++[.row 1 xs false],low)else none
      | .emp=>if xs.length*2<=2^40 then some (.b7 H.length 1 0 xs.length xs.length,H++[.row 1 xs false],low)else none
      | .b7 l bN off len tag=>match H[l]? with
        |some (.row fl ds false)=>
         if bN=1/\fl=1/\ds.length=tag/\off=0/\len=tag/\(len+xs.length)*2<=2^40 then
          some (.b7 l 1 0 (len+xs.length) (len+xs.length),H.set l (.row 1 (ds++xs) false),min low l)
         else none
        | _=>none
      | _=>none
   | _=>none
 | .DQ a b=>match ai a,ai b with
   | .aY,.str s=>
     if s.isEmpty then some (.aY,H,low)
     else if s.length*2<=2^40 then some (.b7 H.length 1 0 s.length s.length,H++[.sj s],low)else none
   | .b7 l es off len tag,.str s=>match H[l]? with
     |some (.sj r)=>if s.isEmpty=false/\es=1/\off=0/\len=tag/\r.length=tag/\(len+s.length)*2<=2^40 then
       some (.b7 l 1 0 (len+s.length) (len+s.length),H.set l (.sj (r++s)),min low l)else none
     | _=>none
   | _,_=>none
 | .qu x=>match elems H 1 (ai x)with
   |some ds=>(bytesOf ds).map fun s=>(.str s,H,low)
   |none=>none
 | .extract x i=>match ai x with
   | .bd vs=>(vs[i]?).map fun v=>(v,H,low)
   | _=>none
 | .len kind x=>match kind,ai x with
   |0,.str s=>some (.int .i64 s.length,H,low)
   |1,.aY|1,.emp=>some (.int .i64 0,H,low)
   |1,.list _ ds=>some (.int .i64 ds.length,H,low)
   |1,.b7 l es _ len tag=>match H[l]? with
    |some (.row bN ds _)=>if bN=es/\ds.length=tag then some (.int .i64 len,H,low)else none
    |some (.sj r)=>if r.length=tag then some (.int .i64 len,H,low)else none
    | _=>none
   |2,.h7=>some (.int .i64 0,H,low)
   |2,.map l=>match H[l]? with
    |some (.map bs)=>some (.int .i64 bs.length,H,low)
    | _=>none
   | _,_=>none
 | .xe es bytes a b=>match elems H es (ai b)with
   |some xs=>if cx xs=false then none else match ai a with
    | .aY=>if xs.isEmpty then some (.aY,H,low)else if bX (xs.flatMap aF)=true/\xs.length*(bytes+1)<=2^40 then some (.list es xs,H,low)else none
    | .emp=>if xs.isEmpty then some (.emp,H,low)else if bX (xs.flatMap aF)=true/\xs.length*(bytes+1)<=2^40 then some (.list es xs,H,low)else none
    | _=>none
   |none=>none
 | .append es bytes a b=>match elems H es (ai b)with
   |some xs=>match e4 H low xs with
    |some (xs,H',low')=>
     if xs.isEmpty then
      match ai a with
      | .aY=>some (.aY,H',low')
      | .emp=>some (.emp,H',low')
      | .list bN ds=>some (.list bN ds,H',low')
      | .b7 l bN off len tag=>match H'[l]? with
        |some (.row _ ds _)=>if ds.length=tag then some (.b7 l bN off len tag,H',low')else none
        | _=>none
      | _=>none
     else if bX (xs.flatMap aF)=false then none else
     match ai a with
     | .aY=>if xs.length*(bytes+1)<=2^40 then
       some (.b7 H'.length es 0 xs.length xs.length,H'++[.row es xs false],low')else none
     | .emp=>if xs.length*(bytes+1)<=2^40 then
       some (.b7 H'.length es 0 xs.length xs.length,H'++[.row es xs false],low')else none
     | .b7 l bN off len tag=>match H'[l]? with
       |some (.row fl ds false)=>
        if bN=es/\fl=es/\ds.length=tag/\off=0/\len=tag/\(len+xs.length)*(bytes+1)<=2^40 then
         some (.b7 l es 0 (len+xs.length) (len+xs.length),H'.set l (.row es (ds++xs) false),min low' l)
        else none
       | _=>none
     | _=>none
    |none=>none
   |none=>none
 | .u1 mx x y=>match ai x,ai y with
   | .int k a,.int bE b=>if k=bE then some (.int k (if mx then max a b else min a b),H,low)else none
   | _,_=>none
 | .copy es a b=>match ai a,elems H es (ai b)with
   | .aY,some _| .emp,some _=>some (.int .i64 0,H,low)
   | .b7 l bN off len tag,some xs=>match H[l]? with
     |some (.row fl ds false)=>
      if bN=es/\fl=es/\ds.length=tag/\off+len<=ds.length/\mf (xs.flatMap aF)=true then
       some (.int .i64 ((min len xs.length:Nat):Int),H.set l (.row es (ds.take off++xs.take len++ds.drop (off+min len xs.length)) false),min low l)
      else none
     | _=>none
   | _,_=>none
 | .call _ _ _=>none
 | .fail=>none
abbrev c1:=V->List V->Heap->Option (V × Heap × Nat)
def gE (aG aw:Env):Option (aj × Bool)->Option Bool
 |none=>some true
 |some (t,b)=>match t.ai aG aw with
  | .bool c=>some (c==b)
  | .bd []=>some false
  | _=>none
def au.put (st:au):Option (Nat × Bool)->V->au
 |none,_=>st
 |some (t,true),v=>{st with aw:=fN st.aw t v}
 |some (t,false),v=>{st with aG:=(t,v)::st.aG}
def cf (call:c1)(ai:aj->V)(H:Heap)(low:Nat):cS->Option (V × Heap × Nat)
 | .call true f args=>match call (ai f) (args.map ai) H with
   |some (v,H',l)=>some (v,H',min low l)
   |none=>none
 | .call false f args=>match e4 H low (args.map ai)with
   |some (vs,H',low')=>match call (ai f) vs H' with
    |some (v,Ig,l)=>if flat v=true/\H'.length<=l then some (v,H,low)else some (v,Ig,min low' l)
    |none=>none
   |none=>none
 |op=>step ai H low op
def fm (H H':Heap)(low:Nat):Bool:=decide (low<H.length)||H'.length != H.length
def c5 (call:c1):List bP->au->List Bool->Option (au × List Bool)
 |[],st,wr=>some (st,wr.reverse)
 |o::r,st,wr=>
  match gE st.aG st.aw o.guard with
  |some true=>match cf call (aj.ai st.aG st.aw) st.H st.H.length o.op with
   |some (v,H',low')=>c5 call r ({st with H:=H',low:=min st.low low'}.put o.dst v) (fm st.H H' low'::wr)
   |none=>none
  |some false=>c5 call r (st.put o.dst (.bd [])) (false::wr)
  |none=>none
def gr:cS->Bool
 | .mv _| .pick .. | .build .. | .nilCheck _| .bin .. | .yy .. | .rm .. | .un .. | .conv .. | .tB .. | .qs .. | .fieldAddr .. | .field .. | .rn .. | .extract .. | .u1 .. =>false
 | _=>true
def cS.operands:cS->List aj
 | .mv x| .box x| .load _ x| .nilCheck x| .un _ x| .conv _ x| .Bl _ x| .fieldAddr _ x| .field _ _ x| .extract x _| .len _ x=>[x]
 | .pick a b c=>[a,b,c]
 | .alloc _| .mkMap| .fail=>[]
 | .build _ parts=>parts.map (·.2.2)
 | .lit _ _ _ parts _=>parts.map (·.2)
 | .store _ a x| .bin _ a x| .yy _ _ a x| .rm _ _ a x| .mkSlice _ _ _ a x| .indexAddr _ a x| .rn a x| .lookup _ _ a x _| .append _ _ a x| .xe _ _ a x| .u1 _ a x| .copy _ a x=>[a,x]
 | .tB _ a b=>a++b
 | .qs x lo hi=>x::(lo.toList++hi.toList)
 | .tC _ x lo hi mx=>x::(lo.toList++hi.toList++mx.toList)
 | .qt _ m k v=>[m,k,v]
 | .yz _ m k=>[m,k]
 | .DP a b=>[a,b]
 | .DQ a b=>[a,b]
 | .qu x=>[x]
 | .call _ f args=>f::args
def xh (eh:List Nat)(ops:List bP)(wr:List Bool):Bool:=
 if wr.any id then
  (wr.zipIdx).all fun(w,i)=>!w||(ops.zipIdx).all fun(o,j)=>
    !gr o.op||i==j||(if j<i then(eh.getD i 0).testBit j else(eh.getD j 0).testBit i)
 else true
def xi (ops:List bP):Bool:=ops.all fun o=>!gr o.op||match o.op,o.guard with
 | .mkSlice ..,none=>true
 | _,_=>false
def rp (eh:List Nat)(ops:List bP)(wr:List Bool):Bool:=xh eh ops wr||xi ops
mutual
def ek:V->V->Bool
 | .bool a,.bool b=>a==b
 | .int k n,.int bE m=>decide (k=bE)&&decide (n=m)
 | .str s,.str ar=>decide (s=ar)
 | .aY,.aY| .emp,.emp| .iY,.iY| .h7,.h7| .kA,.kA| .jL,.jL| .undef,.undef=>true
 | .list e ds,.list e' ds'=>decide (e=e')&&nv ds ds'
 | .agg a,.agg b| .bd a,.bd b=>nv a b
 | .ptr l o,.ptr fS o'=>decide (l=fS)&&decide (o=o')
 | .hg a b c d e,.hg bl e3 c' d' e'=>decide (a=bl)&&(decide (b=e3)&&(decide (c=c')&&(decide (d=d')&&decide (e=e'))))
 | .dW vs f,.dW vs' mg=>nv vs vs'&&decide (f=mg)
 | .b7 a b c d e,.b7 bl e3 c' d' e'=>decide (a=bl)&&(decide (b=e3)&&(decide (c=c')&&(decide (d=d')&&decide (e=e'))))
 | .map l,.map fS| .yield l,.yield fS=>decide (l=fS)
 | .fn i a b,.fn yB bl e3=>decide (i=yB)&&(nv a bl&&nv b e3)
 | .iface t v,.iface e9 v'=>decide (t=e9)&&ek v v'
 | _,_=>false
def nv:List V->List V->Bool
 |[],[]=>true
 |a::r,b::s=>ek a b&&nv r s
 | _,_=>false
end
def fA (call:c1):List bP->au->Option (List au)
 |[],st=>some [st]
 |o::r,st=>
  match gE st.aG st.aw o.guard with
  |some true=>match cf call (aj.ai st.aG st.aw) st.H st.H.length o.op with
   |some (v,H',low')=>(fA call r ({st with H:=H',low:=min st.low low'}.put o.dst v)).map (st:: ·)
   |none=>none
  |some false=>(fA call r (st.put o.dst (.bd []))).map (st:: ·)
  |none=>none
def pG (eh:List Nat)(i j:Nat):Bool:=if j<i then(eh.getD i 0).testBit j else(eh.getD j 0).testBit i
def jo (call:c1)(q:bP × au × Heap):Bool:=
 match gE q.2.1.aG q.2.1.aw q.1.guard with
 |some false=>true
 |some true=>match cf call (aj.ai q.2.1.aG q.2.1.aw) q.2.1.H q.2.1.H.length q.1.op with
  |some (v,_,_)=>match cf call (aj.ai q.2.1.aG q.2.1.aw) q.2.2 q.2.2.length q.1.op with
   |some (v',H',low')=>ek v v'&&!fm q.2.2 H' low'
   |none=>false
  |none=>false
 |none=>false
def Ih (eh:List Nat)(wr:List Bool):Bool:=
 wr.zipIdx.all fun(w,i)=>!w||wr.zipIdx.all fun(w',j)=>!w'||i==j||pG eh i j
def Ii (eh:List Nat)(ops:List bP)(wr:List Bool)(cq:List au):List (bP × au × Heap):=
 ops.zipIdx.flatMap fun(o,j)=>if !gr o.op||wr.getD j false then[]else
  cq.zipIdx.flatMap fun(Bm,k)=>if k==j||(k != 0&&!wr.getD (k-1) false)||wr.zipIdx.any (fun(w,i)=>w&&(i != j&&(pG eh i j&&(decide (i<j) != decide (i<k)))))then[]else
    match cq[j]? with
    |some Ij=>[(o,Ij,Bm.H)]
    |none=>[]
def rq (call:c1)(eh:List Nat)(ops:List bP)(wr:List Bool)(st:au):Bool:=
 match fA call ops st with
 |some cq=>Ih eh wr&&(Ii eh ops wr cq).all (jo call)
 |none=>false
def DR (o:bP):Bool:=match o.op,o.guard with
 | .alloc _,none=>true
 | _,_=>false
def kV (ops:List bP):Nat:=(ops.takeWhile fun o=>!DR o).length
def pH (ops:List bP):Nat:=kV ops+((ops.drop (kV ops)).takeWhile DR).length
def xj (eh:List Nat)(ops:List bP)(wr:List Bool):Bool:=
 let p:=kV ops;let q:=pH ops
 (wr.take p).all (!·)&&((wr.zipIdx).all fun(w,i)=>!w||Nat.blt i q||(ops.zipIdx).all fun(o,j)=>!gr o.op||Nat.blt j p||i==j||pG eh i j)&&
   (ops.zipIdx).all fun(o,j)=>!gr o.op||Nat.blt j q||(List.range' p (q-p)).all fun i=>pG eh i j
def Bn (ops:List bP)(cq:List au):List (bP × au × Heap):=(cq.drop (pH ops)).flatMap fun T=>
 ((ops.zip cq).take (kV ops)).filterMap fun(o,s)=>if gr o.op then some (o,s,T.H)else none
def oO (call:c1)(eh:List Nat)(ops:List bP)(wr:List Bool)(st:au):Bool:=
 rq call eh ops wr st||match fA call ops st with
  |some cq=>xj eh ops wr&&(Bn ops cq).all (jo call)
  |none=>false
def iter (f:au->Option (X × au)):Nat->au->Option (X × au)
 |0,_=>none
 |n+1,st=>match f st with
  |some (.normal,aX)=>iter f n aX
  |r=>r
def Bo:V->Bool
 | .fn .. =>true
 | _=>false
def Nd (ok:List Nat):V->Bool
 | .fn i [] _=>ok.contains i
 | _=>false
def DS (H:Heap):Option Nat->Bool
 |none=>true
 |some l=>match H[l]? with
  |some (.loop ..)=>true
  | _=>false
def au.closed (st:au):au:=match Nat.ble st.low 0 with
 |true=>{st with aG:=[]}
 |false=>{st with aG:=[]}
theorem au.fT (st:au):st.closed={st with aG:=[]}:=by
 unfold au.closed;split<;>rfl
def exec (call:c1)(n:Nat):b8->au->Option (X × au)
 | .skip,st=>some (.normal,st)
 | .region ops eh,st=>match c5 call ops {st with aG:=[]} []with
   |some (aX,wr)=>match eh with
    |none=>some (.normal,aX.closed)
    |some b=>if rp b ops wr||oO call b ops wr {st with aG:=[]}then some (.normal,aX.closed)else none
   |none=>none
 | .yA ops ok f,st=>match c5 call ops {st with aG:=[]} []with
   |some (aX,_)=>if(st.ro.isNone&&Nd ok (f.ai aX.aG aX.aw))=true then some (.normal,aX.closed)else none
   |none=>none
 | .seq a b,st=>match exec call n a st with
   |some (.normal,aX)=>exec call n b aX
   |r=>r
 | .cond c t e,st=>match c.ai st.aG st.aw with
   | .bool true=>exec call n t st
   | .bool false=>exec call n e st
   | _=>none
 | .block id c,st=>match exec call n c st with
   |some (.exit tE,aX)=>if tE=id then some (.normal,aX)else some (.exit tE,aX)
   |r=>r
 | .loop c,st=>iter (exec call n c) n st
 | .rangeFunc f params assign body,st=>
   let l:=st.H.length
   if(DS st.H st.ro&&Bo (f.ai st.aG st.aw))=false then none else
   match call (f.ai st.aG st.aw) [.yield l] (st.H++[.loop .ready .normal st.aw params assign body])with
   |some (_,H',low')=>match H'[l]? with
    |some (.loop ls tD _ _ _ _)=>if ls=.busy then none else some (tD,{st with H:=H'.set l .gone,low:=min st.low low'})
    | _=>none
   |none=>none
 | .exit id,st=>some (.exit id,st)
 | .ret,st=>some (.ret,st)
 | .fail,_=>none
def kC (aw:Env)(H:Heap):mV->Option V
 | .tmp t=>some (bR aw t)
 | .cell a sh=>jN H sh (bR aw a)
def hK (env:Env)(H:Heap):List mV->Option (List V)
 |[]=>some []
 |r::rs=>match kC env H r with
  |some v=>match hK env H rs with
   |some vs=>some (v::vs)
   |none=>none
  |none=>none
def gF:Nat->List V->Env
 | _,[]=>[]
 |i,v::r=>(i,v)::gF (i+1) r
def finish (fresh:Bool)(H0:Heap)(v:V)(H:Heap)(low:Nat):Option (V × Heap × Nat):=
 match fresh,v with
 |true,.b7 l es off len tag=>match H[l]? with
  |some (.row bN ds false)=>
   if H0.length<=low/\H0.length<=l/\bN=es/\ds.length=tag/\olds H0.length ds=true then some (.b7 H0.length es off len tag,H0++[.row es ds false],H0.length)else if l<H0.length then some (.b7 l es off len tag,H,low)else none
  | _=>none
 | _,v=>match fR H low v with
   |some (v',H',low')=>if H0.length<=low'/\old H0.length v'=true then some (v',H0,H0.length)else some (v',H',low')
   |none=>none
abbrev Ik:=List V->Heap->Option (V × List (Nat × cD) × List cD)
inductive cb where
 |code (f:hh)
 |ext (spec:List V->Option V)
 |xk (spec:Ik)
 deriving Inhabited
def T0 (H:Heap)(l:List (Nat × cD)):Heap:=l.foldl (fun H p=>H.set p.1 p.2) H
def T1 (n:Nat)(l:List (Nat × cD)):Nat:=l.foldl (fun n p=>min n p.1) n
def Il (spec:Ik)(args:List V)(H:Heap):Option (V × Heap × Nat):=(spec args H).map fun r=>(r.1,T0 H r.2.1++r.2.2,T1 H.length r.2.1)
def gu (ex:b8->au->Option (X × au))(f:hh)(args:List V)(H:Heap):Option (V × Heap × Nat):=
 if args.length<=f.xf then
  match ex f.body {aG:=[],aw:=gF 0 args,H,low:=H.length}with
  |some (.normal,st)|some (.ret,st)=>match hK st.aw st.H f.results with
   |some [v]=>finish f.fresh H v st.H st.low
   |some vs=>finish f.fresh H (.bd vs) st.H st.low
   |none=>none
  | _=>none
 else none
def pI (ex:b8->au->Option (X × au))(l:Nat)(args:List V)(H:Heap):Option (V × Heap × Nat):=
 match H[l]? with
 |some (.loop .ready _ env params assign body)=>
  if args.length=params.length then
   match ex assign {aG:=[],aw:=(params.zip args).foldl (fun e (t,v)=>fN e t v) env,H,low:=H.length,ro:=some l}with
   |some (.normal,st)=>match st.H[l]? with
    |some (.loop .ready p T2 ps aU c2)=>match ex body {st with H:=st.H.set l (.loop .busy p T2 ps aU c2),low:=min st.low l}with
     |some (x,aX)=>match aX.H[l]? with
      |some (.loop _ _ agd T3 sk T4)=>
       some (.bool (x=.normal),aX.H.set l (.loop (if x=.normal then .ready else .done) x agd T3 sk T4),min aX.low l)
      | _=>none
     |none=>none
    | _=>none
   | _=>none
  else none
 | _=>none
def qx (ad:Nat->Option cb)(call:c1)(n:Nat):c1:=fun f args H=>
 match f with
 | .fn i first caps=>match ad i with
   |some (.code fn)=>gu (exec call n) fn (first++args++caps) H
   |some (.ext spec)=>if cx (first++args++caps)then(spec (first++args++caps)).map fun v=>(v,H,H.length)else none
   |some (.xk spec)=>Il spec (first++args++caps) H
   |none=>none
 | .yield l=>pI (exec call n) l args H
 | _=>none
def bm (ad:Nat->Option cb):Nat->c1
 |0=>fun _ _ _=>none
 |n+1=>qx ad (bm ad n) n
end Go.Abs
namespace Go.Abs
open Go
mutual
def mW:Value->Option V
 | .bool b=>some (.bool b)
 | .int k n=>some (.int k n)
 | .string s=>some (.str s.data.toList)
 | .pointer none=>some .iY
 | .slice none 0 0=>some .aY
 | .map none=>some .h7
 | .nilFunc=>some .kA
 | .nilIface=>some .jL
 | .agg ⟨vs⟩=>(Bp vs).map .agg
 | .tuple ⟨[]⟩=>some .undef
 | _=>none
def Bp:List Value->Option (List V)
 |[]=>some []
 |v::r=>match mW v with
  |some v'=>if u3 v' then none else(Bp r).map (v':: ·)
  |none=>none
end
def ee{α β:Type}(f:α->Option β):List α->Option (List β)
 |[]=>some []
 |a::r=>match f a with
  |some b=>match ee f r with
   |some aJ=>some (b::aJ)
   |none=>none
  |none=>none
structure Ctx where
 P:Program
 Im:Nat->Option Nat
 jM:String->Bool:=fun _=>true
 T5:String->Bool:=fun _=>false
 raw:Nat->Bool:=fun _=>false
 fG:Nat->Option Obj:=fun _=>none
 Bq:List Nat:=[]
 Io:Option Nat:=none
 Br:Nat:=0
 age:String->Bool:=fun _=>false
namespace Ctx
variable (C:Ctx)
def sizeOf (t:Nat):Option Nat:=(C.P.info? t).map (·.size)
def zeroCells (t:Nat):Option (List V):=match C.P.info? t with
 |some i=>match i.zero with
  |some z=>match Bp z.cells.toList with
   |some vs=>if bX vs then some vs else none
   |none=>none
  |none=>none
 |none=>none
def mark (t:Nat):List V->List V
 |[.iY,.aY]=>bif C.Io==some t then[.undef,.aY]else[.iY,.aY]
 |z=>z
def zeroV (t:Nat):Option V:=match C.P.info? t with
 |some i=>match i.zero with
  |some z=>mW z
  |none=>none
 |none=>none
def shapeOf (t:Nat):Option (Option Nat):=match C.P.underlying t with
 |some (.struct _)|some (.array _ _)=>(C.sizeOf t).map some
 |some _=>some none
 |none=>none
def ch (vars:List Nat):Operand->Option aj
 | .tmp t=>some (if vars.contains t then .var t else .tmp t)
 | .const v=>(mW v).map .const
 | .func f=>(C.Im f).map .func
 | .global _=>none
def pJ (vars:List Nat):Option Operand->Option (Option aj)
 |none=>some none
 |some x=>(C.ch vars x).map some
def jP (t:Nat):Option Nat:=match C.P.underlying t with
 |some (.int _)=>some 0
 |some .string=>some 1
 |some .bool=>some 2
 | _=>none
def DT (i:Nat):List Field->Option (List Nat)
 |[]=>some []
 |f::fs=>match C.jP f.type with
  |some k=>if f.name != "_" &&f.offset==i then(DT (i+1) fs).map (k:: ·)else none
  |none=>none
def Bs (i:Nat):List Field->Option (List Nat)
 |[]=>some []
 |f::fs=>match C.jP f.type with
  |some k=>if f.name != "_" &&f.offset==i then(Bs (i+1) fs).map (k:: ·)else none
  |none=>match C.P.underlying f.type with
   |some (.struct gs)=>match C.DT 0 gs.toList with
    |some ks=>if f.name != "_" &&f.offset==i&&!C.P.stoodInHeld f.type&&C.sizeOf f.type==some ks.length then(Bs (i+ks.length) fs).map (ks++ ·)else none
    |none=>none
   | _=>none
def structEq (t:Nat):Option (List Nat):=match C.P.underlying t with
 |some (.struct fs)=>if !C.P.stoodInHeld t&&!C.P.eqGuardType C.P.depth t then C.Bs 0 fs.toList else none
 | _=>none
def Ip:aj->Bool
 | .const .jL=>true
 | _=>false
def yC (d:TypeDesc)(x y:aj)(plain:cS)(neg:Bool):Option cS:=
 match d with
 | .int _| .string=>some plain
 | .pointer _=>some (.rm 0 neg x y)
 | .slice _=>some (.rm 1 neg x y)
 | .func .. =>some (.rm 2 neg x y)
 | .interface _=>if Ip y then some (.rm 3 neg x y)else none
 | .bool=>some (.rm 4 neg x y)
 | _=>none
def builtin (vars:List Nat)(pos:String)(b:Builtin)(args:Array Operand)(ts:Array TypeId):Option cS:=
 match b,args.toList,ts.toList with
 | .len,[x],[t]=>match C.P.underlying t with
   |some .string=>(C.ch vars x).map (.len 0)
   |some (.slice _)=>(C.ch vars x).map (.len 1)
   |some (.map _ _)=>(C.ch vars x).map (.len 2)
   | _=>none
 | .append,[a,b],[t,u]=>match C.P.underlying t,C.P.underlying u with
   |some (.slice e),some (.slice _)=>match C.P.info? e,C.ch vars a,C.ch vars b with
    |some i,some a,some b=>if i.size=0||i.zero.map (·.cells.size) != some i.size then none else some (if C.T5 pos then .xe i.size i.bytes a b else .append i.size i.bytes a b)
    | _,_,_=>none
   |some (.slice e),some .string=>match C.P.info? e,C.ch vars a,C.ch vars b with
    |some i,some a,some b=>if i.size=1&&i.bytes==1&&i.zero.map (·.cells.size)==some 1 then some (if C.age pos&&e==C.Br then .DQ a b else .DP a b)else none
    | _,_,_=>none
   | _,_=>none
 | .delete,[m,k],[t,_]=>match C.P.underlying t,C.ch vars m,C.ch vars k with
   |some (.map eI _),some m,some k=>(C.jP eI).map fun b1=>.yz b1 m k
   | _,_,_=>none
 | .recover,[],_=>none
 | .max,[a,b],_=>match C.ch vars a,C.ch vars b with
   |some a,some b=>some (.u1 true a b)
   | _,_=>none
 | .copy,[a,b],[t,u]=>match C.P.underlying t,C.P.underlying u with
   |some (.slice e),some (.slice _)=>match C.sizeOf e,C.ch vars a,C.ch vars b with
    |some n,some a,some b=>if n=0 then none else some (.copy n a b)
    | _,_,_=>none
   | _,_=>none
 | .min,[a,b],_=>match C.ch vars a,C.ch vars b with
   |some a,some b=>some (.u1 false a b)
   | _,_=>none
 | _,_,_=>none
def cY (vars:List Nat)(pos:String):Op->Option cS
 | .move x| .assign x=>(C.ch vars x).map .mv
 | .pick c a b=>match C.ch vars c,C.ch vars a,C.ch vars b with
   |some c,some a,some b=>some (.pick c a b)
   | _,_,_=>none
 | .alloc t=>(C.zeroCells t).map fun z=>.alloc (C.mark t z)
 | .box _ x=>(C.ch vars x).map .box
 | .build t parts=>match C.P.underlying t,C.zeroCells t with
   |some (.struct fs),some z=>if fs.toList.any (fun f=>(C.sizeOf f.type).isNone)then none else(ee (fun(p:Nat × Operand)=>match fs[p.1]? with
     |some f=>match C.sizeOf f.type,C.ch vars p.2 with
      |some n,some x=>some (f.offset,n,x)
      | _,_=>none
     |none=>none) parts.toList).map (.build z)
   |some (.array _ e),some z=>match C.sizeOf e with
    |some n=>(ee (fun(p:Nat × Operand)=>match C.ch vars p.2 with
      |some x=>some (p.1*n,n,x)
      |none=>none) parts.toList).map (.build z)
    |none=>none
   | _,_=>none
 | .buildSlice t len parts=>match C.P.underlying t with
   |some (.slice e)=>match C.sizeOf e,C.zeroCells e,ee (fun(p:Nat × Operand)=>(C.ch vars p.2).map fun x=>(p.1,x)) parts.toList with
    |some n,some z,some ps=>if n=0\/len*n>2^24\/z.length≠n then none else some (.lit n z len ps (match C.P.underlying e with|some (.func ..)=>false| _=>C.jM pos))
    | _,_,_=>none
   | _=>none
 | .load t a=>match C.shapeOf t,C.ch vars a with
   |some sh,some a=>some (.load sh a)
   | _,_=>none
 | .store t a x=>match C.sizeOf t,C.ch vars a,C.ch vars x with
   |some n,some a,some x=>some (.store n a x)
   | _,_,_=>none
 | .nilCheck x=>(C.ch vars x).map .nilCheck
 | .binOp o t x y _=>match C.ch vars x,C.ch vars y with
   |some x,some y=>match o,C.P.underlying t with
    | .eql,some (.struct _)=>(C.structEq t).map fun n=>.yy false n x y
    | .neq,some (.struct _)=>(C.structEq t).map fun n=>.yy true n x y
    | .eql,some d=>yC d x y (.bin .eql x y) false
    | .neq,some d=>yC d x y (.bin .neq x y) true
    | .eql,none| .neq,none=>none
    | _,_=>some (.bin o x y)
   | _,_=>none
 | .unOp o _ x=>(C.ch vars x).map (.un o)
 | .convert s d x=>match C.P.underlying s,C.P.underlying d,C.ch vars x with
   |some (.int _),some (.int k),some x=>some (.conv k x)
   |some (.slice e),some .string,some x=>match C.P.underlying e with
    |some (.int .u8)=>some (.qu x)
    | _=>none
   | _,_,_=>none
 | .makeInterface t x=>match C.P.underlying t,C.ch vars x with
   |some (.interface _),_=>none
   |some _,some x=>some (.Bl t x)
   | _,_=>none
 | .makeFunc (.func f) a b=>match C.Im f,ee (C.ch vars) a.toList,ee (C.ch vars) b.toList with
   |some i,some a,some b=>some (.tB i a b)
   | _,_,_=>none
 | .makeMap _ none=>some .mkMap
 | .makeSlice t l c=>match C.P.underlying t with
   |some (.slice e)=>match C.P.info? e,C.zeroCells e,C.ch vars l,C.ch vars c with
    |some i,some z,some l,some c=>if i.size=0\/z.length≠i.size then none else some (.mkSlice i.size z i.bytes l c)
    | _,_,_,_=>none
   | _=>none
 | .slice t x lo hi mx=>match C.P.underlying t,C.ch vars x,C.pJ vars lo,C.pJ vars hi,C.pJ vars mx with
   |some .string,some x,some lo,some hi,some none=>some (.qs x lo hi)
   |some (.slice e),some x,some lo,some hi,some mx=>match C.sizeOf e with
    |some n=>if n=0||(hi.isNone&&mx.isSome)then none else some (.tC n x lo hi mx)
    |none=>none
   | _,_,_,_,_=>none
 | .fieldAddr s x f=>match C.P.underlying s,C.ch vars x with
   |some (.struct fs),some x=>match fs[f]? with
    |some bb=>match C.sizeOf bb.type with
     |some n=>if n=0 then none else some (.fieldAddr bb.offset x)
     |none=>none
    |none=>none
   | _,_=>none
 | .field s x f=>match C.P.underlying s,C.ch vars x with
   |some (.struct fs),some x=>match fs[f]? with
    |some bb=>(C.shapeOf bb.type).map fun sh=>.field bb.offset sh x
    |none=>none
   | _,_=>none
 | .indexAddr t x i=>match C.P.underlying t,C.ch vars x,C.ch vars i with
   |some (.slice e),some x,some i=>match C.sizeOf e with
    |some n=>if n=0 then none else some (.indexAddr n x i)
    |none=>none
   | _,_,_=>none
 | .index t x i=>match C.P.underlying t,C.ch vars x,C.ch vars i with
   |some .string,some x,some i=>some (.rn x i)
   | _,_,_=>none
 | .lookup t x i ok=>match C.P.underlying t,C.ch vars x,C.ch vars i with
   |some (.map k e),some x,some i=>match C.jP k,C.zeroV e with
    |some b1,some z=>if u3 z then none else some (.lookup b1 z x i ok)
    | _,_=>none
   | _,_,_=>none
 | .mapUpdate t m k v=>match C.P.underlying t,C.ch vars m,C.ch vars k,C.ch vars v with
   |some (.map eI _),some m,some k,some v=>(C.jP eI).map fun b1=>.qt b1 m k v
   | _,_,_,_=>none
 | .insert t m k v=>match C.P.underlying t,C.ch vars m,C.ch vars k,C.ch vars v with
   |some (.map eI _),some m,some k,some v=>(C.jP eI).map fun b1=>.qt b1 m k v
   | _,_,_,_=>none
 | .extract x i=>(C.ch vars x).map fun x=>.extract x i
 | .call {callee:=.value f,args,.. }=>match C.ch vars f,ee (C.ch vars) args.toList with
   |some f,some aU=>some (.call (match f with| .func i=>C.raw i| _=>false) f aU)
   | _,_=>none
 | .call {callee:=.builtin b,args,argTypes}=>C.builtin vars pos b args argTypes
 | _=>none
def op (vars:List Nat)(pos:String)(o:Op):cS:=(C.cY vars pos o).getD .fail
def guard (vars:List Nat)(ops:Array Oper):Option (Nat × Bool)->Option (Option (aj × Bool))
 |none=>some none
 |some (j,want)=>match(ops[j]?).bind (·.dst)with
  |some d=>some (some (if vars.contains d then .var d else .tmp d,want))
  |none=>none
def oper (vars:List Nat)(n:Nat)(ops:Array Oper)(o:Oper):Option bP:=
 match guard vars ops o.guard with
 |some g=>match o.dst with
  |none=>some {dst:=none,op:=C.op vars o.pos o.op,guard:=g}
  |some d=>if d<n then some {dst:=some (d,vars.contains d),op:=C.op vars o.pos o.op,guard:=g}else none
 |none=>none
def yD (ops:Array Oper):Bool:=
 ops.toList.zipIdx.all fun(o,i)=>o.after.all fun e=>match e.ground with| .gcOnly _=>true| _=>decide (e.on<i)
def tmpsOf (xs:Array Operand):List Nat:=xs.toList.filterMap fun| .tmp t=>some t| _=>none
def fU (ops:Array Oper)(o:Oper):List Nat:=
 tmpsOf o.op.operands++(match o.guard with|some (j,_)=>((ops[j]?).bind (·.dst)).toList|none=>[])
def yE (ops:Array Oper):Bool:=
 let b:=CheckFast.beforeF ops
 ops.toList.zipIdx.all fun(o,j)=>ops.toList.zipIdx.all fun(p,i)=>
  match p.dst with
  |none=>true
  |some d=>i==j||!(o.dst==some d||(fU ops o).contains d)||(b.getD (max i j) 0).testBit (min i j)
def xl (ops:Array Oper)(o:Oper)(a:bP):Bool:=
 a.op.operands.all fun
   | .tmp t| .var t=>(fU ops o).contains t
   | _=>true
def Nf (vars:List Nat)(n:Nat)(ops:Array Oper):Option b8:=match C.Bq,ops.toList.getLast? with
 |[],_=>none
 | _,some hQ=>match hQ.op,hQ.guard with
   | .defer {callee:=.value f,args,.. },none=>match args.toList,ee (C.oper vars n ops) ops.toList.dropLast,C.ch vars f with
     |[],some bK,some mh=>if hQ.dst.isNone then some (.yA bK C.Bq mh)else none
     | _,_,_=>none
   | _,_=>none
 | _,none=>none
def code (vars:List Nat)(n:Nat):Code->Option b8
 | .skip=>some .skip
 | .region _ ops draw=>match(if draw then none else C.Nf vars n ops)with
   |some r=>some r
   |none=>match ee (C.oper vars n ops) ops.toList with
    |some bK=>if !draw then some (.region bK none)
    else if yD ops&&yE ops&&(ops.toList.zip bK).all (fun(o,a)=>xl ops o a)then some (.region bK (some (CheckFast.beforeF ops).toList))else none
    |none=>none
 | .seq a b=>match code vars n a,code vars n b with
   |some a,some b=>some (.seq a b)
   | _,_=>none
 | .cond c t e=>match C.ch vars c,code vars n t,code vars n e with
   |some c,some t,some e=>some (.cond c t e)
   | _,_,_=>none
 | .block id c=>(code vars n c).map (.block id)
 | .loop c=>(code vars n c).map .loop
 | .rangeFunc f ps a b=>match C.ch vars f,code vars n a,code vars n b with
   |some f,some a,some b=>if ps.all (fun t=>decide (t<n)&&vars.contains t)then some (.rangeFunc f ps.toList a b)else none
   | _,_,_=>none
 | .exit id=>some (.exit id)
 | .ret=>some .ret
 | _=>some .fail
def xm:Code->List Nat
 | .region _ ops _=>(ops.toList.foldl (fun(acc:List Nat × List Nat) o=>
  let g:=match o.guard with|some (j,_)=>((ops[j]?).bind (·.dst)).toList|none=>[]
  let reads:=(g++tmpsOf o.op.operands).filter fun t=>!acc.2.contains t
  (acc.1++reads,o.dst.toList++acc.2)) ([],[])).1
 | .seq a b=>xm a++xm b
 | .cond c t e=>tmpsOf #[c]++xm t++xm e
 | .block _ c| .loop c=>xm c
 | .rangeFunc f ps a b=>tmpsOf #[f]++ps.toList++xm a++xm b
 | _=>[]
def res:ResultVar->Option mV
 | .tmp t=>some (.tmp t)
 | .cell a t=>(C.shapeOf t).map (.cell a)
def rr:List ResultVar->List Nat
 |[]=>[]
 | .tmp t::r=>t::rr r
 | .cell a _::r=>a::rr r
def varsOf (f:Func):List Nat:=
 ((List.range (f.params.size+f.nfree)++rr f.results.toList++(match f.body with|some c=>xm c|none=>[])).eraseDups)
def func (f:Func)(fresh:Bool):Option hh:=
 match f.body with
 |some c=>match C.code (varsOf f) f.ntmps c,ee C.res f.results.toList with
  |some b,some rs=>if f.name== "runtime.NumGoroutine" then none else some {xf:=f.ntmps,body:=b,results:=rs,fresh}
  | _,_=>none
 |none=>none
end Ctx
end Go.Abs
