/- Texts of this claim, joined and written short by a program. -/
import Derived.Calls
import Derived.CheckFast
set_option linter.unusedVariables false
set_option linter.unusedSimpArgs false
set_option linter.unusedSectionVars false
namespace Go.Abs
set_option linter.defProp false
def aB := @Option.some.injEq
def bs := @Option.bind_some
def aH := @Nat.le_refl
def cA := @Option.map_eq_some_iff
def bx := @Prod.mk.injEq
def b6 := @Bool.and_eq_true
def eg := @List.getElem?_eq_getElem
def ek := @Option.bind_eq_some_iff
def e5 := @List.getElem?_append_left
def fj := @List.getElem?_eq_some_iff
def eE := @Nat.eq_of_beq_eq_true
def cJ := @Nat.zero_le
def cY := @Nat.le_trans
def fM := @Array.getElem?_toList
def eZ := @List.length_append
def ev := @List.all_eq_true
def fw := @Array.length_toList
def dv := @List.map_cons
def dW := @List.prefix_rfl
def dx := @List.mem_cons
def jw := @List.mem_zipIdx_iff_getElem?
def gg := @List.mem_of_getElem?
def eL := @List.length_map
def dA := @Nat.zero_add
def kj := @List.getD_eq_getElem?_getD
def gq := @Bool.false_eq_true
def dZ := @List.mem_map
def eU := @List.cons.inj
def hK := @List.prefix_append
def gD := @List.length_cons
def jx := @List.getElem?_set_ne
def hL := @List.getElem?_map
def im := @List.flatMap_cons
def fU := @Bool.true_and
def kW := @List.mem_cons_of_mem
def lQ := @List.getElem?_eq_none
def iq := @List.mem_append
def mh := @Nat.le_of_ble_eq_true
def iI := @Bool.or_eq_true
def pX := @List.getElem?_append_right
def nI := @List.getElem?_set_self
def gh := @Nat.lt_or_ge
def oz := @Nat.exists_eq_add_of_le
def kA := @List.append_assoc
def kB := @Bool.not_eq_true'
def o8 := @List.getElem?_cons_zero
def hX := @Bool.not_true
def jM := @Nat.min_le_left
def jN := @List.nil_append
def kk := @List.map_append
def pY := @List.mem_iff_getElem?
def pZ := @List.mem_append_right
def uP := @Array.getElem?_eq_some_iff
def mi := @List.cons_append
def iT := @List.map_nil
def uQ := @List.drop_eq_getElem_cons
def lR := @List.append_nil
def nc := @List.length_take
def p4 := @List.map_congr_left
def r1 := @List.getElem?_toArray
def oA := @List.ext_getElem?
def nJ := @Nat.min_le_right
def nK := @List.length_drop
def uR := @List.length_eq_zero_iff
def x1 := @Array.getD_eq_getD_getElem?
def p5 := @List.mem_cons_self
def uS := @List.all_eq_not_any_not
def oB := @Option.getD_some
def s9 := @List.contains_iff_mem
def nL := @List.length_nil
def nM := @Option.map_some
def r2 := @List.mem_map_of_mem
def kX := @List.map_map
def r3 := @Nat.lt_of_lt_of_le
def zv := @Array.getElem?_eq_getElem
def p6 := @List.foldl_cons
def vO := @Bool.or_eq_false_iff
def ta := @List.size_toArray
def r4 := @List.not_mem_nil
def qU := @Nat.min_eq_left
def zw := @Int.eq_ofNat_of_zero_le
def zx := @Array.getElem?_eq_none
def zy := @List.drop_eq_nil_of_le
def x2 := @List.mem_of_mem_drop
def x3 := @List.mem_of_mem_take
def x4 := @Nat.mul_le_mul_right
def x5 := @List.mem_append_left
def tb := @Nat.le_max_right
def tc := @List.any_eq_true
def td := @List.range'_succ
def uT := @List.nodup_append
def CC := @List.getElem?_cons_succ
def te := @Option.some.inj
def uU := @Nat.min_eq_right
def tf := @List.nodup_cons
def Fi := @List.getElem?_zip_eq_some
def Fj := @List.sublist_append_right
def qV := @Nat.add_assoc
def uV := @Nat.le_max_left
def CD := @Array.getElem?_modify
def zz := @List.replicate_succ
def CE := @List.length_replicate
def zA := @List.flatMap_append
def vP := @List.getElem_mem
def zB := @List.mem_singleton
def qW := @Nat.ne_of_lt
def CF := @List.toList_toArray
def p7 := @Nat.add_mul
def zC := @Array.size_append
def zD := @List.any_eq_false
def vQ := @Bool.not_false
def CG := @List.getElem?_drop
def x6 := @List.cons.injEq
def x7 := @List.length_set
def uW := @Bool.and_true
def uX := @Bool.false_or
def Fk := @List.range_eq_range'
def zE := @Nat.lt_succ_self
def tg := @Nat.min_self
def JS := @List.take_of_length_le
def Wl := @Array.getElem?_setIfInBounds_ne
def Oc := @List.pairwise_iff_getElem
def x8 := @List.foldl_nil
def zF := @Option.map_none
def zG := @Bool.eq_iff_iff
def Fl := @List.getElem?_take
def Fm := @Nat.pos_of_ne_zero
def Fo := @List.zip_cons_cons
def CH := @List.mem_flatMap
def JT := @List.set_append_left
def vR := @Nat.le_of_lt
def zH := @List.drop_drop
def zI := @Bool.and_assoc
def vS := @Nat.zero_mul
def zJ := @List.mem_range
def Fp := @List.take_add_one
def JU := @List.length_pos_iff
def JV := @List.length_reverse
def CI := @Nat.not_lt_zero
def JW := @List.filterMap_cons
def Od := @List.drop_of_length_le
def ly := @Ne.symm
def Wm := @Array.getElem?_append_left
def Wn := @Int.tmod_eq_emod_of_nonneg
def Fq := @List.map_toArray
def th := @Go.Calls.mono
def Oe := @List.take_append_drop
def x9 := @Nat.add_zero
def JX := @Nat.add_right_comm
def JY := @List.pairwise_cons
def zK := @Bool.and_self
def Of := @List.length_filter_le
def CJ := @List.drop_zero
def Og := @List.getElem?_of_mem
def ajY := @Array.toList_eraseIdxIfInBounds
def JZ := @List.reverse_cons
def J0 := @List.Sublist.refl
def J1 := @List.flatten_cons
def zL := @Nat.succ_mul
def ajZ := @Array.eq_empty_of_size_eq_zero
def zM := @Nat.beq_refl
def J2 := @Nat.max_eq_right
def J3 := @List.getElem_map
def J4 := @List.take_length
def Fs := @List.nodup_nil
def Oh := @List.set_cons_zero
def J5 := @Nat.max_eq_left
def zN := @Int.le_refl
def J6 := @List.find?_cons
def Oi := @Int.toNat_natCast
def Oj := @Nat.lt_succ_of_lt
def Ol := @Bool.not_eq_false
def Wo := @List.mem_iff_getElem
def Wp := @List.pairwise_append
def aj0 := @List.mem_or_eq_of_mem_set
def aj1 := @Array.filter_eq_empty_iff
def Om := @Array.toList_map
def On := @Nat.le_add_right
def Oo := @List.drop_append
def Oq := @List.isEmpty_nil
def Wq := @List.getElem?_range
def Ft := @Nat.sub_self
def J7 := @List.all_cons
def Wr := @List.set_cons_succ
def Ws := @Array.foldl_toList
def Wt := @Nat.eq_zero_or_pos
def aj2 := @List.eraseIdx_cons_zero
def aj3 := @List.eraseIdx_cons_succ
def Wu := @List.mem_filterMap
def Wv := @List.findIdx?_cons
def aj4 := @Array.contains_iff_mem
def Fu := @Nat.le_succ
def Ww := @Array.toList_push
def Ot := @Int.mul_le_mul
def Ou := @Nat.mul_le_mul
def Ov := @Bool.false_and
inductive V where
 |bool (b:Bool)
 |int (k:IntKind) (n:Int)
 |str (s:List UInt8)
 |aN
 |emp
 |list (es:Nat) (ds:List V)
 |agg (vs:List V)
 |aU (vs:List V)
 |ji
 |ptr (l o:Nat)
 |hz (l es i f tag:Nat)
 |dO (vs:List V) (f:Nat)
 |bJ (l es off len tag:Nat)
 |iu
 |map (l:Nat)
 |kC
 |fn (i:Nat) (first caps:List V)
 |yield (l:Nat)
 |jO
 |iface (t:Nat) (v:V)
 |undef
 deriving Inhabited
inductive aj where
 |tmp (t:Nat)
 |var (t:Nat)
 |const (v:V)
 |func (i:Nat)
 deriving Inhabited
inductive cV where
 |mv (x:aj)
 |pick (c a b:aj)
 |alloc (z:List V)
 |box (x:aj)
 |build (z:List V) (parts:List (Nat × Nat × aj))
 |lit (es:Nat) (z:List V) (len:Nat) (parts:List (Nat × aj)) (jP:Bool)
 |load (sh:Option Nat) (x:aj)
 |store (n:Nat) (a x:aj)
 |nilCheck (x:aj)
 |bin (op:BinOp) (x y:aj)
 |zO (neg:Bool) (ks:List Nat) (x y:aj)
 |r5 (kind:Nat) (neg:Bool) (x y:aj)
 |un (op:UnOp) (x:aj)
 |conv (k:IntKind) (x:aj)
 |CK (t:Nat) (x:aj)
 |uY (i:Nat) (first caps:List aj)
 |mkMap
 |mkSlice (es:Nat) (z:List V) (bytes:Nat) (l c:aj)
 |qX (x:aj) (lo hi:Option aj)
 |ti (es:Nat) (x:aj) (lo hi mx:Option aj)
 |fieldAddr (off:Nat) (x:aj)
 |field (off:Nat) (sh:Option Nat) (x:aj)
 |indexAddr (es:Nat) (x i:aj)
 |r6 (x i:aj)
 |lookup (kind:Nat) (z:V) (x i:aj) (ok:Bool)
 |p8 (kind:Nat) (m k v:aj)
 |zP (kind:Nat) (m k:aj)
 |Fv (a b:aj)
 |Fw (a b:aj)
 |vT (x:aj)
 |extract (x:aj) (i:Nat)
 |len (kind:Nat) (x:aj)
 |append (es bytes:Nat) (a b:aj)
 |ya (es bytes:Nat) (a b:aj)
 |vU (mx:Bool) (x y:aj)
 |copy (es:Nat) (a b:aj)
 |call (raw:Bool) (f:aj) (args:List aj)
 |fail
 deriving Inhabited
structure bS where
 dst:Option (Nat × Bool)
 op:cV
 guard:Option (aj × Bool)
 deriving Inhabited
inductive bZ where
 |skip
 |region (ops:List bS) (dX:Option (List Nat))
 |zQ (ops:List bS) (ok:List Nat) (f:aj)
 |seq (a b:bZ)
 |cond (c:aj) (t e:bZ)
 |block (id:Nat) (body:bZ)
 |loop (body:bZ)
 |rangeFunc (f:aj) (params:List Nat) (assign body:bZ)
 |exit (id:Nat)
 |ret
 |fail
 deriving Inhabited
inductive nd where
 |tmp (t:Nat)
 |cell (a:Nat) (sh:Option Nat)
 deriving Inhabited
structure hY where
 zR:Nat
 body:bZ
 results:List nd
 fresh:Bool
 deriving Inhabited
abbrev Env:=List (Nat × V)
inductive X where
 |normal
 |exit (id:Nat)
 |ret
 deriving DecidableEq,Inhabited
inductive b5 where
 |cells (vs:List V)
 |row (es:Nat) (ds:List V) (fz:Bool)
 |map (bp:List (V × V))
 |loop (st:LoopState) (uZ:X) (env:Env) (params:List Nat) (assign body:bZ)
 |tj (s:List UInt8)
 |dead (n:Nat)
 |gone
 deriving Inhabited
abbrev Heap:=List b5
structure av where
 aF:Env
 au:Env
 H:Heap
 low:Nat
 ro:Option Nat:=none
 deriving Inhabited
def aC:V->List V
 | .agg vs=>vs
 |v=>[v]
mutual
def bI:V->Bool
 | .bool _| .int _ _| .str _| .aN| .emp| .list _ _| .ji| .iu| .kC| .jO=>true
 | .agg vs| .aU vs=>cj vs
 | .iface _ v=>bI v
 | .fn _ a b=>cj a&&cj b
 | _=>false
def cj:List V->Bool
 |[]=>true
 |v::r=>bI v&&cj r
end
mutual
def flat:V->Bool
 | .bool _| .int _ _| .str _| .aN| .emp| .ji| .iu| .kC| .jO=>true
 | .agg vs| .aU vs=>vV vs
 | _=>false
def vV:List V->Bool
 |[]=>true
 |v::r=>flat v&&vV r
end
mutual
def old (n:Nat):V->Bool
 | .ptr l _| .hz l _ _ _ _| .bJ l _ _ _ _| .map l| .yield l=>decide (l<n)
 | .agg vs| .aU vs=>olds n vs
 | .fn _ a b=>olds n a&&olds n b
 | .iface _ v=>old n v
 | .undef=>false
 | _=>true
def olds (n:Nat):List V->Bool
 |[]=>true
 |v::r=>old n v&&olds n r
end
def u0:V->Bool
 | .undef=>true
 | _=>false
def iJ (cs:List V)(o:Nat):Option Nat->Option V
 |none=>cs[o]?
 |some n=>if o+n<=cs.length then some (.agg ((cs.drop o).take n))else none
def setCells (cs:List V)(o:Nat):List V->List V
 |[]=>cs
 |x::xs=>setCells (cs.set o x) (o+1) xs
def bG:Env->Nat->V
 |[],_=>.undef
 |(k,v)::r,t=>if k=t then v else bG r t
def dD:Env->Nat->V->Env
 |[],t,v=>[(t,v)]
 |(k,u)::r,t,v=>if k=t then(k,v)::r else(k,u)::dD r t v
def aj.ah (aF au:Env):aj->V
 | .tmp t=>bG aF t
 | .var t=>bG au t
 | .const v=>v
 | .func i=>.fn i [] []
def jQ (H:Heap)(sh:Option Nat):V->Option V
 | .ptr l o=>match H[l]? with
   |some (.cells vs)=>iJ vs o sh
   | _=>none
 | .hz l es i f tag=>match H[l]? with
   |some (.row bN ds _)=>if bN=es/\ds.length=tag then(ds[i]?).bind fun d=>iJ (aC d) f sh else none
   | _=>none
 | .dO vs f=>iJ vs f sh
 | _=>none
def yb (d:V)(f:Nat)(xs:List V):Option V:=
 match d with
 | .agg vs=>if f+xs.length<=vs.length then some (.agg (setCells vs f xs))else none
 | _=>match f,xs with
   |0,[x]=>some x
   | _,_=>none
def eF:V->Bool
 | .agg _| .aU _| .undef=>false
 | _=>true
def bL:List V->Bool
 |[]=>true
 |v::r=>eF v&&bL r
def plainCell:V->Bool
 | .agg _| .aU _| .undef| .dO .. | .hz .. =>false
 | _=>true
def mj:List V->Bool
 |[]=>true
 |v::r=>plainCell v&&mj r
def jy (H:Heap)(n:Nat)(a v:V):Option (Heap × Nat):=
 match a with
 | .ptr l o=>match H[l]? with
   |some (.cells vs)=>if(aC v).length=n/\o+n<=vs.length/\bL (aC v)=true then some (H.set l (.cells (setCells vs o (aC v))),l)else none
   | _=>none
 | .hz l es i f tag=>match H[l]? with
   |some (.row bN ds false)=>
    if bN=es/\ds.length=tag/\(aC v).length=n/\mj (aC v)=true then
     match ds[i]? with
     |some d=>match yb d f (aC v)with
      |some d'=>some (H.set l (.row es (ds.set i d') false),l)
      |none=>none
     |none=>none
    else none
   | _=>none
 | _=>none
def kY (f:Heap->Nat->V->Option (V × Heap × Nat))(H:Heap)(low:Nat):List V->Option (List V × Heap × Nat)
 |[]=>some ([],H,low)
 |v::r=>match f H low v with
  |some (v',H1,bO)=>match kY f H1 bO r with
   |some (o9,H2,dH)=>some (v'::o9,H2,dH)
   |none=>none
  |none=>none
def dR:Nat->Heap->Nat->V->Option (V × Heap × Nat)
 |0,H,low,v=>if bI v then some (v,H,low)else none
 |n+1,H,low,v=>
  if bI v then some (v,H,low)else
  match v with
  | .agg vs=>match kY (dR n) H low vs with
    |some (vs',H',low')=>some (.agg vs',H',low')
    |none=>none
  | .aU vs=>match kY (dR n) H low vs with
    |some (vs',H',low')=>some (.aU vs',H',low')
    |none=>none
  | .bJ l es off len tag=>match H[l]? with
    |some (.row bN ds fz)=>
     if bN=es/\ds.length=tag/\off+len<=ds.length then
      if cj ds=true then some (.list es ((ds.drop off).take len),if fz then H else H.set l (.row es ds true),if fz then low else min low l)
      else match kY (dR n) H low ds with
       |some (ds',H',low')=>match H'[l]? with
        |some (.row Wx kD false)=>
         if Wx=es/\kD.length=tag/\cj ds'=true then some (.list es ((ds'.drop off).take len),H'.set l (.row es ds' true),min low' l)else none
        | _=>none
       |none=>none
     else none
    | _=>none
  |v=>some (v,H,low)
def fF (H:Heap)(low:Nat)(v:V):Option (V × Heap × Nat):=dR 16 H low v
def e0 (H:Heap)(low:Nat):List V->Option (List V × Heap × Nat)
 |[]=>some ([],H,low)
 |v::r=>match fF H low v with
  |some (v',H1,bO)=>match e0 H1 bO r with
   |some (o9,H2,dH)=>some (v'::o9,H2,dH)
   |none=>none
  |none=>none
def elems (H:Heap)(es:Nat):V->Option (List V)
 | .aN| .emp=>some []
 | .list bN ds=>if bN=es then some ds else none
 | .bJ l bN off len tag=>match H[l]? with
   |some (.row e6 ds _)=>if bN=es/\e6=es/\ds.length=tag/\off+len<=ds.length then some ((ds.drop off).take len)else none
   | _=>none
 | _=>none
def p9:V->Option Bool
 | .bool b=>some b
 | _=>none
def kE:V->Option Nat
 | .int _ n=>if 0<=n then some n.toNat else none
 | _=>none
def en (op:BinOp)(x y:V):Option V:=
 match op,x,y with
 | .shl,.int k a,.int _ b=>if 0<=b/\b.toNat<=k.bits then some (.int k (k.wrap (a*2^b.toNat)))else none
 | .shr,.int k a,.int _ b=>if 0<=b/\b.toNat<=k.bits then some (.int k (a/2^b.toNat))else none
 |op,.int k a,.int bF b=>
  if k≠bF then none else
  match op with
  | .add=>some (.int k (k.wrap (a+b)))
  | .sub=>some (.int k (k.wrap (a-b)))
  | .mul=>some (.int k (k.wrap (a*b)))
  | .quo=>if b=0 then none else some (.int k (k.wrap (a.tdiv b)))
  | .rem=>if b=0 then none else some (.int k (a.tmod b))
  | .eql=>some (.bool (a==b))
  | .neq=>some (.bool (a != b))
  | .lss=>some (.bool (decide (a<b)))
  | .leq=>some (.bool (decide (a<=b)))
  | .gtr=>some (.bool (decide (a>b)))
  | .geq=>some (.bool (decide (a>=b)))
  | .and=>some (.int k (k.wrap ((BitVec.ofInt k.bits a &&& BitVec.ofInt k.bits b).toNat)))
  | _=>none
 | .add,.str a,.str b=>if a.length+b.length<=2^40 then some (.str (a++b))else none
 | .eql,.str a,.str b=>some (.bool (a==b))
 | .neq,.str a,.str b=>some (.bool (a != b))
 | _,_,_=>none
def qY (kind:Nat)(x y:V):Option Bool:=
 match kind,x,y with
 |0,.ji,.ji=>some true
 |0,.ptr _ _,.ji|0,.ji,.ptr _ _=>some false
 |1,.aN,.aN=>some true
 |1,.emp,.aN|1,.list _ _,.aN|1,.bJ _ _ _ _ _,.aN=>some false
 |2,.kC,.kC=>some true
 |2,.fn _ _ _,.kC=>some false
 |3,.jO,.jO=>some true
 |3,.iface _ _,.jO=>some false
 |4,.bool a,.bool b=>some (a==b)
 | _,_,_=>none
def qa (op:UnOp)(x:V):Option V:=
 match op,x with
 | .neg,.int k n=>some (.int k (k.wrap (0-n)))
 | .not,.bool b=>some (.bool !b)
 | _,_=>none
def iK:Nat->V->V->Option Bool
 |0,.int k a,.int bF b=>if k=bF then some (a==b)else none
 |1,.str a,.str b=>some (a==b)
 |2,.bool a,.bool b=>some (a==b)
 | _,_,_=>none
def kF:List Nat->List V->List V->Option Bool
 |[],[],[]=>some true
 |k::ks,a::x,b::y=>match iK k a b with
  |some e=>match kF ks x y with
   |some e'=>some (e&&e')
   |none=>none
  |none=>none
 | _,_,_=>none
def hZ (kind:Nat)(k:V):List (V × V)->Option (Option V)
 |[]=>some none
 |(bF,v)::r=>match iK kind k bF with
  |some true=>some (some v)
  |some false=>hZ kind k r
  |none=>none
def kZ (kind:Nat)(k v:V):List (V × V)->List (V × V)
 |[]=>[(k,v)]
 |(bF,u)::r=>if iK kind k bF=some true then(k,v)::r else(bF,u)::kZ kind k v r
def jj (kind:Nat)(k:V):List (V × V)->List (V × V)
 |[]=>[]
 |(bF,u)::r=>if iK kind k bF=some true then r else(bF,u)::jj kind k r
def bytesOf:List V->Option (List UInt8)
 |[]=>some []
 | .int .u8 n::r=>(bytesOf r).map (UInt8.ofNat n.toNat:: ·)
 | _=>none
def tk (cs:List V):List (Nat × Nat × V)->Option (List V)
 |[]=>some cs
 |(off,n,v)::r=>if(aC v).length=n/\off+n<=cs.length/\bL (aC v)=true then tk (setCells cs off (aC v)) r else none
def qb (es:Nat)(ds:List V):List (Nat × V)->Option (List V)
 |[]=>some ds
 |(i,v)::r=>if(aC v).length=es/\i<ds.length/\bL (aC v)=true then qb es (ds.set i v) r else none
def lz (z:List V):V:=match z with|[x]=>x| _=>.agg z
def fa (ah:aj->V)(Ow:Nat):Option aj->Option Nat
 |none=>some Ow
 |some x=>kE (ah x)
def step (ah:aj->V)(H:Heap)(low:Nat):cV->Option (V × Heap × Nat)
 | .mv x=>some (ah x,H,low)
 | .pick c a b=>(p9 (ah c)).map fun t=>(if t then ah a else ah b,H,low)
 | .alloc z=>some (.ptr H.length 0,H++[.cells z],low)
 | .box x=>if bL (aC (ah x))then some (.ptr H.length 0,H++[.cells (aC (ah x))],low)else none
 | .build z parts=>(tk z (parts.map fun p=>(p.1,p.2.1,ah p.2.2))).map fun cs=>(.agg cs,H,low)
 | .lit es z len parts jP=>match e0 H low (parts.map fun p=>ah p.2)with
   |some (vs,H',low')=>match qb es (List.replicate len (lz z)) ((parts.zip vs).map fun(p,v)=>(p.1,v))with
    |some ds=>
     if jP then(if cj ds then some (if len=0 then .emp else .list es ds,H',low')else none)
     else if len=0 then some (.emp,H',low')else some (.bJ H'.length es 0 len len,H'++[.row es ds false],low')
    |none=>none
   |none=>none
 | .load sh x=>(jQ H sh (ah x)).map fun v=>(v,H,low)
 | .store n a x=>(jy H n (ah a) (ah x)).map fun(H',l)=>(.undef,H',min low l)
 | .nilCheck x=>match ah x with
   | .ptr l o=>some (.ptr l o,H,low)
   | .hz l es i f tag=>some (.hz l es i f tag,H,low)
   | .dO vs f=>some (.dO vs f,H,low)
   | .fn i a b=>some (.fn i a b,H,low)
   | _=>none
 | .bin op x y=>(en op (ah x) (ah y)).map fun v=>(v,H,low)
 | .zO neg ks x y=>match ah x,ah y with
   | .agg a,.agg b=>(kF ks a b).map fun e=>(.bool (if neg then !e else e),H,low)
   | _,_=>none
 | .r5 kind neg x y=>(qY kind (ah x) (ah y)).map fun e=>(.bool (if neg then !e else e),H,low)
 | .un op x=>(qa op (ah x)).map fun v=>(v,H,low)
 | .conv k x=>match ah x with
   | .int _ n=>some (.int k (k.wrap n),H,low)
   | _=>none
 | .CK t x=>match fF H low (ah x)with
   |some (v,H',low')=>some (.iface t v,H',low')
   |none=>none
 | .uY i a b=>some (.fn i (a.map ah) (b.map ah),H,low)
 | .mkMap=>some (.map H.length,H++[.map []],low)
 | .mkSlice es z bytes l c=>match ah l,ah c with
   | .int _ n,.int _ m=>if n=m/\0<=n/\n*(bytes+1)<=2^40 then
     (if n=0 then some (.emp,H,low)else
       some (.bJ H.length es 0 n.toNat n.toNat,H++[.row es (List.replicate n.toNat (lz z)) false],low))else none
   | _,_=>none
 | .qX x lo hi=>match ah x with
   | .str s=>match fa ah 0 lo,fa ah s.length hi with
     |some a,some b=>if a<=b/\b<=s.length then some (.str ((s.take b).drop a),H,low)else none
     | _,_=>none
   | _=>none
 | .ti es x lo hi mx=>match ah x with
   | .aN=>match fa ah 0 lo,fa ah 0 hi,fa ah 0 mx with
     |some 0,some 0,some 0=>some (.aN,H,low)
     | _,_,_=>none
   | .emp=>match fa ah 0 lo,fa ah 0 hi,fa ah 0 mx with
     |some 0,some 0,some 0=>some (.emp,H,low)
     | _,_,_=>none
   | .list bN ds=>match fa ah 0 lo,fa ah ds.length hi with
     |some a,some b=>if a<=b/\b<=ds.length/\bN=es then
       match mx with
       |none=>some (.list es ((ds.take b).drop a),H,low)
       |some m=>if kE (ah m)=some 0/\b=0 then some (.emp,H,low)else none
      else none
     | _,_=>none
   | .bJ l bN off len tag=>match fa ah 0 lo,fa ah len hi with
     |some a,some b=>if a<=b/\b<=len/\bN=es then
       match mx with
       |none=>match H[l]? with
        |some (.row e6 ds _)=>if ds.length=tag/\e6=es then(if a<b then some (.bJ l es (off+a) (b-a) tag,H,low)else some (.list es [],H,low))else none
        | _=>none
       |some m=>if kE (ah m)=some 0/\b=0 then some (.emp,H,low)else none
      else none
     | _,_=>none
   | _=>none
 | .fieldAddr off x=>match ah x with
   | .ptr l o=>some (.ptr l (o+off),H,low)
   | .hz l es i f tag=>some (.hz l es i (f+off) tag,H,low)
   | .dO vs f=>some (.dO vs (f+off),H,low)
   | _=>none
 | .field off sh x=>match ah x with
   | .agg vs=>(iJ vs off sh).map fun v=>(v,H,low)
   | _=>none
 | .indexAddr es x i=>match kE (ah i)with
   |some i=>match ah x with
    | .list bN ds=>if bN=es then(ds[i]?).map fun d=>(.dO (aC d) 0,H,low)else none
    | .bJ l bN off len tag=>match H[l]? with
      |some (.row e6 ds _)=>if bN=es/\e6=es/\ds.length=tag/\i<len/\off+len<=ds.length then some (.hz l es (off+i) 0 tag,H,low)else none
      | _=>none
    | _=>none
   |none=>none
 | .r6 x i=>match ah x,kE (ah i)with
   | .str s,some i=>(s[i]?).map fun c=>(.int .u8 c.toNat,H,low)
   | _,_=>none
 | .lookup kind z x i ok=>match ah x with
   | .iu=>some (if ok then .aU [z,.bool false]else z,H,low)
   | .map l=>match H[l]? with
     |some (.map bp)=>match hZ kind (ah i) bp with
      |some (some v)=>some (if ok then .aU [v,.bool true]else v,H,low)
      |some none=>some (if ok then .aU [z,.bool false]else z,H,low)
      |none=>none
     | _=>none
   | _=>none
 | .p8 kind m k v=>match fF H low (ah v)with
   |some (v',H',low')=>if u0 v' then none else match ah m with
    | .map l=>match H'[l]? with
      |some (.map bp)=>match hZ kind (ah k) bp with
       |some _=>some (.undef,H'.set l (.map (kZ kind (ah k) v' bp)),min low' l)
       |none=>none
      | _=>none
    | _=>none
   |none=>none
 | .zP kind m k=>match ah m with
   | .iu=>some (.aU [],H,low)
   | .map l=>match H[l]? with
     |some (.map bp)=>match hZ kind (ah k) bp with
      |some _=>some (.aU [],H.set l (.map (jj kind (ah k) bp)),min low l)
      |none=>none
     | _=>none
   | _=>none
 | .Fv a b=>match ah b with
   | .str s=>
     if s.isEmpty then
      match ah a with
      | .aN=>some (.aN,H,low)
      | .emp=>some (.emp,H,low)
      | .bJ l bN off len tag=>match H[l]? with
        |some (.row _ ds _)=>if ds.length=tag then some (.bJ l bN off len tag,H,low)else none
        | _=>none
      | _=>none
     else
      let xs:List V:=s.map fun c=>.int .u8 c.toNat
      match ah a with
      | .aN=>if xs.length*2<=2^40 then some (.bJ H.length 1 0 xs.length xs.length,H++[.row 1 xs false],low)else none
      | .emp=>if xs.length*2<=2^40 then some (.bJ H.length 1 0 xs.length xs.length,H++[.row 1 xs false],low)else none
      | .bJ l bN off len tag=>match H[l]? with
        |some (.row e6 ds false)=>
         if bN=1/\e6=1/\ds.length=tag/\off=0/\len=tag/\(len+xs.length)*2<=2^40 then
          some (.bJ l 1 0 (len+xs.length) (len+xs.length),H.set l (.row 1 (ds++xs) false),min low l)
         else none
        | _=>none
      | _=>none
   | _=>none
 | .Fw a b=>match ah a,ah b with
   | .aN,.str s=>
     if s.isEmpty then some (.aN,H,low)
     else if s.length*2<=2^40 then some (.bJ H.length 1 0 s.length s.length,H++[.tj s],low)else none
   | .bJ l es off len tag,.str s=>match H[l]? with
     |some (.tj r)=>if s.isEmpty=false/\es=1/\off=0/\len=tag/\r.length=tag/\(len+s.length)*2<=2^40 then
       some (.bJ l 1 0 (len+s.length) (len+s.length),H.set l (.tj (r++s)),min low l)else none
     | _=>none
   | _,_=>none
 | .vT x=>match elems H 1 (ah x)with
   |some ds=>(bytesOf ds).map fun s=>(.str s,H,low)
   |none=>none
 | .extract x i=>match ah x with
   | .aU vs=>(vs[i]?).map fun v=>(v,H,low)
   | _=>none
 | .len kind x=>match kind,ah x with
   |0,.str s=>some (.int .i64 s.length,H,low)
   |1,.aN|1,.emp=>some (.int .i64 0,H,low)
   |1,.list _ ds=>some (.int .i64 ds.length,H,low)
   |1,.bJ l es _ len tag=>match H[l]? with
    |some (.row bN ds _)=>if bN=es/\ds.length=tag then some (.int .i64 len,H,low)else none
    |some (.tj r)=>if r.length=tag then some (.int .i64 len,H,low)else none
    | _=>none
   |2,.iu=>some (.int .i64 0,H,low)
   |2,.map l=>match H[l]? with
    |some (.map bp)=>some (.int .i64 bp.length,H,low)
    | _=>none
   | _,_=>none
 | .ya es bytes a b=>match elems H es (ah b)with
   |some xs=>if cj xs=false then none else match ah a with
    | .aN=>if xs.isEmpty then some (.aN,H,low)else if bL (xs.flatMap aC)=true/\xs.length*(bytes+1)<=2^40 then some (.list es xs,H,low)else none
    | .emp=>if xs.isEmpty then some (.emp,H,low)else if bL (xs.flatMap aC)=true/\xs.length*(bytes+1)<=2^40 then some (.list es xs,H,low)else none
    | _=>none
   |none=>none
 | .append es bytes a b=>match elems H es (ah b)with
   |some xs=>match e0 H low xs with
    |some (xs,H',low')=>
     if xs.isEmpty then
      match ah a with
      | .aN=>some (.aN,H',low')
      | .emp=>some (.emp,H',low')
      | .list bN ds=>some (.list bN ds,H',low')
      | .bJ l bN off len tag=>match H'[l]? with
        |some (.row _ ds _)=>if ds.length=tag then some (.bJ l bN off len tag,H',low')else none
        | _=>none
      | _=>none
     else if bL (xs.flatMap aC)=false then none else
     match ah a with
     | .aN=>if xs.length*(bytes+1)<=2^40 then
       some (.bJ H'.length es 0 xs.length xs.length,H'++[.row es xs false],low')else none
     | .emp=>if xs.length*(bytes+1)<=2^40 then
       some (.bJ H'.length es 0 xs.length xs.length,H'++[.row es xs false],low')else none
     | .bJ l bN off len tag=>match H'[l]? with
       |some (.row e6 ds false)=>
        if bN=es/\e6=es/\ds.length=tag/\off=0/\len=tag/\(len+xs.length)*(bytes+1)<=2^40 then
         some (.bJ l es 0 (len+xs.length) (len+xs.length),H'.set l (.row es (ds++xs) false),min low' l)
        else none
       | _=>none
     | _=>none
    |none=>none
   |none=>none
 | .vU mx x y=>match ah x,ah y with
   | .int k a,.int bF b=>if k=bF then some (.int k (if mx then max a b else min a b),H,low)else none
   | _,_=>none
 | .copy es a b=>match ah a,elems H es (ah b)with
   | .aN,some _| .emp,some _=>some (.int .i64 0,H,low)
   | .bJ l bN off len tag,some xs=>match H[l]? with
     |some (.row e6 ds false)=>
      if bN=es/\e6=es/\ds.length=tag/\off+len<=ds.length/\mj (xs.flatMap aC)=true then
       some (.int .i64 ((min len xs.length:Nat):Int),H.set l (.row es (ds.take off++xs.take len++ds.drop (off+min len xs.length)) false),min low l)
      else none
     | _=>none
   | _,_=>none
 | .call _ _ _=>none
 | .fail=>none
abbrev cW:=V->List V->Heap->Option (V × Heap × Nat)
def gE (aF au:Env):Option (aj × Bool)->Option Bool
 |none=>some true
 |some (t,b)=>match t.ah aF au with
  | .bool c=>some (c==b)
  | .aU []=>some false
  | _=>none
def av.put (st:av):Option (Nat × Bool)->V->av
 |none,_=>st
 |some (t,true),v=>{st with au:=dD st.au t v}
 |some (t,false),v=>{st with aF:=(t,v)::st.aF}
def cc (call:cW)(ah:aj->V)(H:Heap)(low:Nat):cV->Option (V × Heap × Nat)
 | .call true f args=>match call (ah f) (args.map ah) H with
   |some (v,H',l)=>some (v,H',min low l)
   |none=>none
 | .call false f args=>match e0 H low (args.map ah)with
   |some (vs,H',low')=>match call (ah f) vs H' with
    |some (v,J8,l)=>if flat v=true/\H'.length<=l then some (v,H,low)else some (v,J8,min low' l)
    |none=>none
   |none=>none
 |op=>step ah H low op
def ew (H H':Heap)(low:Nat):Bool:=decide (low<H.length)||H'.length != H.length
def c3 (call:cW):List bS->av->List Bool->Option (av × List Bool)
 |[],st,wr=>some (st,wr.reverse)
 |o::r,st,wr=>
  match gE st.aF st.au o.guard with
  |some true=>match cc call (aj.ah st.aF st.au) st.H st.H.length o.op with
   |some (v,H',low')=>c3 call r ({st with H:=H',low:=min st.low low'}.put o.dst v) (ew st.H H' low'::wr)
   |none=>none
  |some false=>c3 call r (st.put o.dst (.aU [])) (false::wr)
  |none=>none
def gr:cV->Bool
 | .mv _| .pick .. | .build .. | .nilCheck _| .bin .. | .zO .. | .r5 .. | .un .. | .conv .. | .uY .. | .qX .. | .fieldAddr .. | .field .. | .r6 .. | .extract .. | .vU .. =>false
 | _=>true
def cV.operands:cV->List aj
 | .mv x| .box x| .load _ x| .nilCheck x| .un _ x| .conv _ x| .CK _ x| .fieldAddr _ x| .field _ _ x| .extract x _| .len _ x=>[x]
 | .pick a b c=>[a,b,c]
 | .alloc _| .mkMap| .fail=>[]
 | .build _ parts=>parts.map (·.2.2)
 | .lit _ _ _ parts _=>parts.map (·.2)
 | .store _ a x| .bin _ a x| .zO _ _ a x| .r5 _ _ a x| .mkSlice _ _ _ a x| .indexAddr _ a x| .r6 a x| .lookup _ _ a x _| .append _ _ a x| .ya _ _ a x| .vU _ a x| .copy _ a x=>[a,x]
 | .uY _ a b=>a++b
 | .qX x lo hi=>x::(lo.toList++hi.toList)
 | .ti _ x lo hi mx=>x::(lo.toList++hi.toList++mx.toList)
 | .p8 _ m k v=>[m,k,v]
 | .zP _ m k=>[m,k]
 | .Fv a b=>[a,b]
 | .Fw a b=>[a,b]
 | .vT x=>[x]
 | .call _ f args=>f::args
def yc (dX:List Nat)(ops:List bS)(wr:List Bool):Bool:=
 if wr.any id then
  (wr.zipIdx).all fun(w,i)=>!w||(ops.zipIdx).all fun(o,j)=>
    !gr o.op||i==j||(if j<i then(dX.getD i 0).testBit j else(dX.getD j 0).testBit i)
 else true
def yd (ops:List bS):Bool:=ops.all fun o=>!gr o.op||match o.op,o.guard with
 | .mkSlice ..,none=>true
 | _,_=>false
def r7 (dX:List Nat)(ops:List bS)(wr:List Bool):Bool:=yc dX ops wr||yd ops
mutual
def dS:V->V->Bool
 | .bool a,.bool b=>a==b
 | .int k n,.int bF m=>decide (k=bF)&&decide (n=m)
 | .str s,.str ao=>decide (s=ao)
 | .aN,.aN| .emp,.emp| .ji,.ji| .iu,.iu| .kC,.kC| .jO,.jO| .undef,.undef=>true
 | .list e ds,.list e' ds'=>decide (e=e')&&nN ds ds'
 | .agg a,.agg b| .aU a,.aU b=>nN a b
 | .ptr l o,.ptr fk o'=>decide (l=fk)&&decide (o=o')
 | .hz a b c d e,.hz bk e1 c' d' e'=>decide (a=bk)&&(decide (b=e1)&&(decide (c=c')&&(decide (d=d')&&decide (e=e'))))
 | .dO vs f,.dO vs' ml=>nN vs vs'&&decide (f=ml)
 | .bJ a b c d e,.bJ bk e1 c' d' e'=>decide (a=bk)&&(decide (b=e1)&&(decide (c=c')&&(decide (d=d')&&decide (e=e'))))
 | .map l,.map fk| .yield l,.yield fk=>decide (l=fk)
 | .fn i a b,.fn CL bk e1=>decide (i=CL)&&(nN a bk&&nN b e1)
 | .iface t v,.iface ey v'=>decide (t=ey)&&dS v v'
 | _,_=>false
def nN:List V->List V->Bool
 |[],[]=>true
 |a::r,b::s=>dS a b&&nN r s
 | _,_=>false
end
def fx (call:cW):List bS->av->Option (List av)
 |[],st=>some [st]
 |o::r,st=>
  match gE st.aF st.au o.guard with
  |some true=>match cc call (aj.ah st.aF st.au) st.H st.H.length o.op with
   |some (v,H',low')=>(fx call r ({st with H:=H',low:=min st.low low'}.put o.dst v)).map (st:: ·)
   |none=>none
  |some false=>(fx call r (st.put o.dst (.aU []))).map (st:: ·)
  |none=>none
def qc (dX:List Nat)(i j:Nat):Bool:=if j<i then(dX.getD i 0).testBit j else(dX.getD j 0).testBit i
def jz (call:cW)(q:bS × av × Heap):Bool:=
 match gE q.2.1.aF q.2.1.au q.1.guard with
 |some false=>true
 |some true=>match cc call (aj.ah q.2.1.aF q.2.1.au) q.2.1.H q.2.1.H.length q.1.op with
  |some (v,_,_)=>match cc call (aj.ah q.2.1.aF q.2.1.au) q.2.2 q.2.2.length q.1.op with
   |some (v',H',low')=>dS v v'&&!ew q.2.2 H' low'
   |none=>false
  |none=>false
 |none=>false
def J9 (dX:List Nat)(wr:List Bool):Bool:=
 wr.zipIdx.all fun(w,i)=>!w||wr.zipIdx.all fun(w',j)=>!w'||i==j||qc dX i j
def Ka (dX:List Nat)(ops:List bS)(wr:List Bool)(cl:List av):List (bS × av × Heap):=
 ops.zipIdx.flatMap fun(o,j)=>if !gr o.op||wr.getD j false then[]else
  cl.zipIdx.flatMap fun(CM,k)=>if k==j||(k != 0&&!wr.getD (k-1) false)||wr.zipIdx.any (fun(w,i)=>w&&(i != j&&(qc dX i j&&(decide (i<j) != decide (i<k)))))then[]else
    match cl[j]? with
    |some Kb=>[(o,Kb,CM.H)]
    |none=>[]
def r8 (call:cW)(dX:List Nat)(ops:List bS)(wr:List Bool)(st:av):Bool:=
 match fx call ops st with
 |some cl=>J9 dX wr&&(Ka dX ops wr cl).all (jz call)
 |none=>false
def Fx (o:bS):Bool:=match o.op,o.guard with
 | .alloc _,none=>true
 | _,_=>false
def k1 (ops:List bS):Nat:=(ops.takeWhile fun o=>!Fx o).length
def qd (ops:List bS):Nat:=k1 ops+((ops.drop (k1 ops)).takeWhile Fx).length
def ye (dX:List Nat)(ops:List bS)(wr:List Bool):Bool:=
 let p:=k1 ops;let q:=qd ops
 (wr.take p).all (!·)&&((wr.zipIdx).all fun(w,i)=>!w||Nat.blt i q||(ops.zipIdx).all fun(o,j)=>!gr o.op||Nat.blt j p||i==j||qc dX i j)&&
   (ops.zipIdx).all fun(o,j)=>!gr o.op||Nat.blt j q||(List.range' p (q-p)).all fun i=>qc dX i j
def CN (ops:List bS)(cl:List av):List (bS × av × Heap):=(cl.drop (qd ops)).flatMap fun T=>
 ((ops.zip cl).take (k1 ops)).filterMap fun(o,s)=>if gr o.op then some (o,s,T.H)else none
def pb (call:cW)(dX:List Nat)(ops:List bS)(wr:List Bool)(st:av):Bool:=
 r8 call dX ops wr st||match fx call ops st with
  |some cl=>ye dX ops wr&&(CN ops cl).all (jz call)
  |none=>false
def iter (f:av->Option (X × av)):Nat->av->Option (X × av)
 |0,_=>none
 |n+1,st=>match f st with
  |some (.normal,aQ)=>iter f n aQ
  |r=>r
def CO:V->Bool
 | .fn .. =>true
 | _=>false
def Ox (ok:List Nat):V->Bool
 | .fn i [] _=>ok.contains i
 | _=>false
def Fy (H:Heap):Option Nat->Bool
 |none=>true
 |some l=>match H[l]? with
  |some (.loop ..)=>true
  | _=>false
def av.closed (st:av):av:=match Nat.ble st.low 0 with
 |true=>{st with aF:=[]}
 |false=>{st with aF:=[]}
theorem av.fy (st:av):st.closed={st with aF:=[]}:=by
 unfold av.closed;split<;>rfl
def exec (call:cW)(n:Nat):bZ->av->Option (X × av)
 | .skip,st=>some (.normal,st)
 | .region ops dX,st=>match c3 call ops {st with aF:=[]} []with
   |some (aQ,wr)=>match dX with
    |none=>some (.normal,aQ.closed)
    |some b=>if r7 b ops wr||pb call b ops wr {st with aF:=[]}then some (.normal,aQ.closed)else none
   |none=>none
 | .zQ ops ok f,st=>match c3 call ops {st with aF:=[]} []with
   |some (aQ,_)=>if(st.ro.isNone&&Ox ok (f.ah aQ.aF aQ.au))=true then some (.normal,aQ.closed)else none
   |none=>none
 | .seq a b,st=>match exec call n a st with
   |some (.normal,aQ)=>exec call n b aQ
   |r=>r
 | .cond c t e,st=>match c.ah st.aF st.au with
   | .bool true=>exec call n t st
   | .bool false=>exec call n e st
   | _=>none
 | .block id c,st=>match exec call n c st with
   |some (.exit u1,aQ)=>if u1=id then some (.normal,aQ)else some (.exit u1,aQ)
   |r=>r
 | .loop c,st=>iter (exec call n c) n st
 | .rangeFunc f params assign body,st=>
   let l:=st.H.length
   if(Fy st.H st.ro&&CO (f.ah st.aF st.au))=false then none else
   match call (f.ah st.aF st.au) [.yield l] (st.H++[.loop .ready .normal st.au params assign body])with
   |some (_,H',low')=>match H'[l]? with
    |some (.loop ls uZ _ _ _ _)=>if ls=.busy then none else some (uZ,{st with H:=H'.set l .gone,low:=min st.low low'})
    | _=>none
   |none=>none
 | .exit id,st=>some (.exit id,st)
 | .ret,st=>some (.ret,st)
 | .fail,_=>none
def kl (au:Env)(H:Heap):nd->Option V
 | .tmp t=>some (bG au t)
 | .cell a sh=>jQ H sh (bG au a)
def gP (env:Env)(H:Heap):List nd->Option (List V)
 |[]=>some []
 |r::rs=>match kl env H r with
  |some v=>match gP env H rs with
   |some vs=>some (v::vs)
   |none=>none
  |none=>none
def fl:Nat->List V->Env
 | _,[]=>[]
 |i,v::r=>(i,v)::fl (i+1) r
def finish (fresh:Bool)(H0:Heap)(v:V)(H:Heap)(low:Nat):Option (V × Heap × Nat):=
 match fresh,v with
 |true,.bJ l es off len tag=>match H[l]? with
  |some (.row bN ds false)=>
   if H0.length<=low/\H0.length<=l/\bN=es/\ds.length=tag/\olds H0.length ds=true then some (.bJ H0.length es off len tag,H0++[.row es ds false],H0.length)else if l<H0.length then some (.bJ l es off len tag,H,low)else none
  | _=>none
 | _,v=>match fF H low v with
   |some (v',H',low')=>if H0.length<=low'/\old H0.length v'=true then some (v',H0,H0.length)else some (v',H',low')
   |none=>none
abbrev u2:=List V->Heap->Option (V × List (Nat × b5) × List b5)
inductive bU where
 |code (f:hY)
 |ext (spec:List V->Option V)
 |oC (spec:u2)
 deriving Inhabited
def qe (H:Heap)(l:List (Nat × b5)):Heap:=l.foldl (fun H p=>H.set p.1 p.2) H
def qf (n:Nat)(l:List (Nat × b5)):Nat:=l.foldl (fun n p=>min n p.1) n
def qZ (spec:u2)(args:List V)(H:Heap):Option (V × Heap × Nat):=(spec args H).map fun r=>(r.1,qe H r.2.1++r.2.2,qf H.length r.2.1)
def gF (ex:bZ->av->Option (X × av))(f:hY)(args:List V)(H:Heap):Option (V × Heap × Nat):=
 if args.length<=f.zR then
  match ex f.body {aF:=[],au:=fl 0 args,H,low:=H.length}with
  |some (.normal,st)|some (.ret,st)=>match gP st.au st.H f.results with
   |some [v]=>finish f.fresh H v st.H st.low
   |some vs=>finish f.fresh H (.aU vs) st.H st.low
   |none=>none
  | _=>none
 else none
def qg (ex:bZ->av->Option (X × av))(l:Nat)(args:List V)(H:Heap):Option (V × Heap × Nat):=
 match H[l]? with
 |some (.loop .ready _ env params assign body)=>
  if args.length=params.length then
   match ex assign {aF:=[],au:=(params.zip args).foldl (fun e (t,v)=>dD e t v) env,H,low:=H.length,ro:=some l}with
   |some (.normal,st)=>match st.H[l]? with
    |some (.loop .ready p Wy ps ay cv)=>match ex body {st with H:=st.H.set l (.loop .busy p Wy ps ay cv),low:=min st.low l}with
     |some (x,aQ)=>match aQ.H[l]? with
      |some (.loop _ _ aj5 Wz tl WA)=>
       some (.bool (x=.normal),aQ.H.set l (.loop (if x=.normal then .ready else .done) x aj5 Wz tl WA),min aQ.low l)
      | _=>none
     |none=>none
    | _=>none
   | _=>none
  else none
 | _=>none
def q0 (aa:Nat->Option bU)(call:cW)(n:Nat):cW:=fun f args H=>
 match f with
 | .fn i first caps=>match aa i with
   |some (.code fn)=>gF (exec call n) fn (first++args++caps) H
   |some (.ext spec)=>if cj (first++args++caps)then(spec (first++args++caps)).map fun v=>(v,H,H.length)else none
   |some (.oC spec)=>qZ spec (first++args++caps) H
   |none=>none
 | .yield l=>qg (exec call n) l args H
 | _=>none
def bm (aa:Nat->Option bU):Nat->cW
 |0=>fun _ _ _=>none
 |n+1=>q0 aa (bm aa n) n
end Go.Abs
namespace Go.Abs
open Go
mutual
def nf:Value->Option V
 | .bool b=>some (.bool b)
 | .int k n=>some (.int k n)
 | .string s=>some (.str s.data.toList)
 | .pointer none=>some .ji
 | .slice none 0 0=>some .aN
 | .map none=>some .iu
 | .nilFunc=>some .kC
 | .nilIface=>some .jO
 | .agg ⟨vs⟩=>(CP vs).map .agg
 | .tuple ⟨[]⟩=>some .undef
 | _=>none
def CP:List Value->Option (List V)
 |[]=>some []
 |v::r=>match nf v with
  |some v'=>if u0 v' then none else(CP r).map (v':: ·)
  |none=>none
end
def dM{α β:Type}(f:α->Option β):List α->Option (List β)
 |[]=>some []
 |a::r=>match f a with
  |some b=>match dM f r with
   |some aK=>some (b::aK)
   |none=>none
  |none=>none
structure Ctx where
 P:Program
 Kc:Nat->Option Nat
 jP:String->Bool:=fun _=>true
 WB:String->Bool:=fun _=>false
 raw:Nat->Bool:=fun _=>false
 fG:Nat->Option Obj:=fun _=>none
 CQ:List Nat:=[]
 Kd:Option Nat:=none
 CR:Nat:=0
 aj6:String->Bool:=fun _=>false
namespace Ctx
variable (C:Ctx)
def sizeOf (t:Nat):Option Nat:=(C.P.info? t).map (·.size)
def zeroCells (t:Nat):Option (List V):=match C.P.info? t with
 |some i=>match i.zero with
  |some z=>match CP z.cells.toList with
   |some vs=>if bL vs then some vs else none
   |none=>none
  |none=>none
 |none=>none
def mark (t:Nat):List V->List V
 |[.ji,.aN]=>bif C.Kd==some t then[.undef,.aN]else[.ji,.aN]
 |z=>z
def zeroV (t:Nat):Option V:=match C.P.info? t with
 |some i=>match i.zero with
  |some z=>nf z
  |none=>none
 |none=>none
def shapeOf (t:Nat):Option (Option Nat):=match C.P.underlying t with
 |some (.struct _)|some (.array _ _)=>(C.sizeOf t).map some
 |some _=>some none
 |none=>none
def cg (vars:List Nat):Operand->Option aj
 | .tmp t=>some (if vars.contains t then .var t else .tmp t)
 | .const v=>(nf v).map .const
 | .func f=>(C.Kc f).map .func
 | .global _=>none
def qh (vars:List Nat):Option Operand->Option (Option aj)
 |none=>some none
 |some x=>(C.cg vars x).map some
def jR (t:Nat):Option Nat:=match C.P.underlying t with
 |some (.int _)=>some 0
 |some .string=>some 1
 |some .bool=>some 2
 | _=>none
def Fz (i:Nat):List Field->Option (List Nat)
 |[]=>some []
 |f::fs=>match C.jR f.type with
  |some k=>if f.name != "_" &&f.offset==i then(Fz (i+1) fs).map (k:: ·)else none
  |none=>none
def CS (i:Nat):List Field->Option (List Nat)
 |[]=>some []
 |f::fs=>match C.jR f.type with
  |some k=>if f.name != "_" &&f.offset==i then(CS (i+1) fs).map (k:: ·)else none
  |none=>match C.P.underlying f.type with
   |some (.struct gs)=>match C.Fz 0 gs.toList with
    |some ks=>if f.name != "_" &&f.offset==i&&!C.P.stoodInHeld f.type&&C.sizeOf f.type==some ks.length then(CS (i+ks.length) fs).map (ks++ ·)else none
    |none=>none
   | _=>none
def structEq (t:Nat):Option (List Nat):=match C.P.underlying t with
 |some (.struct fs)=>if !C.P.stoodInHeld t&&!C.P.eqGuardType C.P.depth t then C.CS 0 fs.toList else none
 | _=>none
def Ke:aj->Bool
 | .const .jO=>true
 | _=>false
def zS (d:TypeDesc)(x y:aj)(plain:cV)(neg:Bool):Option cV:=
 match d with
 | .int _| .string=>some plain
 | .pointer _=>some (.r5 0 neg x y)
 | .slice _=>some (.r5 1 neg x y)
 | .func .. =>some (.r5 2 neg x y)
 | .interface _=>if Ke y then some (.r5 3 neg x y)else none
 | .bool=>some (.r5 4 neg x y)
 | _=>none
def builtin (vars:List Nat)(pos:String)(b:Builtin)(args:Array Operand)(ts:Array TypeId):Option cV:=
 match b,args.toList,ts.toList with
 | .len,[x],[t]=>match C.P.underlying t with
   |some .string=>(C.cg vars x).map (.len 0)
   |some (.slice _)=>(C.cg vars x).map (.len 1)
   |some (.map _ _)=>(C.cg vars x).map (.len 2)
   | _=>none
 | .append,[a,b],[t,u]=>match C.P.underlying t,C.P.underlying u with
   |some (.slice e),some (.slice _)=>match C.P.info? e,C.cg vars a,C.cg vars b with
    |some i,some a,some b=>if i.size=0||i.zero.map (·.cells.size) != some i.size then none else some (if C.WB pos then .ya i.size i.bytes a b else .append i.size i.bytes a b)
    | _,_,_=>none
   |some (.slice e),some .string=>match C.P.info? e,C.cg vars a,C.cg vars b with
    |some i,some a,some b=>if i.size=1&&i.bytes==1&&i.zero.map (·.cells.size)==some 1 then some (if C.aj6 pos&&e==C.CR then .Fw a b else .Fv a b)else none
    | _,_,_=>none
   | _,_=>none
 | .delete,[m,k],[t,_]=>match C.P.underlying t,C.cg vars m,C.cg vars k with
   |some (.map eI _),some m,some k=>(C.jR eI).map fun bY=>.zP bY m k
   | _,_,_=>none
 | .recover,[],_=>none
 | .max,[a,b],_=>match C.cg vars a,C.cg vars b with
   |some a,some b=>some (.vU true a b)
   | _,_=>none
 | .copy,[a,b],[t,u]=>match C.P.underlying t,C.P.underlying u with
   |some (.slice e),some (.slice _)=>match C.sizeOf e,C.cg vars a,C.cg vars b with
    |some n,some a,some b=>if n=0 then none else some (.copy n a b)
    | _,_,_=>none
   | _,_=>none
 | .min,[a,b],_=>match C.cg vars a,C.cg vars b with
   |some a,some b=>some (.vU false a b)
   | _,_=>none
 | _,_,_=>none
def cX (vars:List Nat)(pos:String):Op->Option cV
 | .move x| .assign x=>(C.cg vars x).map .mv
 | .pick c a b=>match C.cg vars c,C.cg vars a,C.cg vars b with
   |some c,some a,some b=>some (.pick c a b)
   | _,_,_=>none
 | .alloc t=>(C.zeroCells t).map fun z=>.alloc (C.mark t z)
 | .box _ x=>(C.cg vars x).map .box
 | .build t parts=>match C.P.underlying t,C.zeroCells t with
   |some (.struct fs),some z=>if fs.toList.any (fun f=>(C.sizeOf f.type).isNone)then none else(dM (fun(p:Nat × Operand)=>match fs[p.1]? with
     |some f=>match C.sizeOf f.type,C.cg vars p.2 with
      |some n,some x=>some (f.offset,n,x)
      | _,_=>none
     |none=>none) parts.toList).map (.build z)
   |some (.array _ e),some z=>match C.sizeOf e with
    |some n=>(dM (fun(p:Nat × Operand)=>match C.cg vars p.2 with
      |some x=>some (p.1*n,n,x)
      |none=>none) parts.toList).map (.build z)
    |none=>none
   | _,_=>none
 | .buildSlice t len parts=>match C.P.underlying t with
   |some (.slice e)=>match C.sizeOf e,C.zeroCells e,dM (fun(p:Nat × Operand)=>(C.cg vars p.2).map fun x=>(p.1,x)) parts.toList with
    |some n,some z,some ps=>if n=0\/len*n>2^24\/z.length≠n then none else some (.lit n z len ps (match C.P.underlying e with|some (.func ..)=>false| _=>C.jP pos))
    | _,_,_=>none
   | _=>none
 | .load t a=>match C.shapeOf t,C.cg vars a with
   |some sh,some a=>some (.load sh a)
   | _,_=>none
 | .store t a x=>match C.sizeOf t,C.cg vars a,C.cg vars x with
   |some n,some a,some x=>some (.store n a x)
   | _,_,_=>none
 | .nilCheck x=>(C.cg vars x).map .nilCheck
 | .binOp o t x y _=>match C.cg vars x,C.cg vars y with
   |some x,some y=>match o,C.P.underlying t with
    | .eql,some (.struct _)=>(C.structEq t).map fun n=>.zO false n x y
    | .neq,some (.struct _)=>(C.structEq t).map fun n=>.zO true n x y
    | .eql,some d=>zS d x y (.bin .eql x y) false
    | .neq,some d=>zS d x y (.bin .neq x y) true
    | .eql,none| .neq,none=>none
    | _,_=>some (.bin o x y)
   | _,_=>none
 | .unOp o _ x=>(C.cg vars x).map (.un o)
 | .convert s d x=>match C.P.underlying s,C.P.underlying d,C.cg vars x with
   |some (.int _),some (.int k),some x=>some (.conv k x)
   |some (.slice e),some .string,some x=>match C.P.underlying e with
    |some (.int .u8)=>some (.vT x)
    | _=>none
   | _,_,_=>none
 | .makeInterface t x=>match C.P.underlying t,C.cg vars x with
   |some (.interface _),_=>none
   |some _,some x=>some (.CK t x)
   | _,_=>none
 | .makeFunc (.func f) a b=>match C.Kc f,dM (C.cg vars) a.toList,dM (C.cg vars) b.toList with
   |some i,some a,some b=>some (.uY i a b)
   | _,_,_=>none
 | .makeMap _ none=>some .mkMap
 | .makeSlice t l c=>match C.P.underlying t with
   |some (.slice e)=>match C.P.info? e,C.zeroCells e,C.cg vars l,C.cg vars c with
    |some i,some z,some l,some c=>if i.size=0\/z.length≠i.size then none else some (.mkSlice i.size z i.bytes l c)
    | _,_,_,_=>none
   | _=>none
 | .slice t x lo hi mx=>match C.P.underlying t,C.cg vars x,C.qh vars lo,C.qh vars hi,C.qh vars mx with
   |some .string,some x,some lo,some hi,some none=>some (.qX x lo hi)
   |some (.slice e),some x,some lo,some hi,some mx=>match C.sizeOf e with
    |some n=>if n=0||(hi.isNone&&mx.isSome)then none else some (.ti n x lo hi mx)
    |none=>none
   | _,_,_,_,_=>none
 | .fieldAddr s x f=>match C.P.underlying s,C.cg vars x with
   |some (.struct fs),some x=>match fs[f]? with
    |some a7=>match C.sizeOf a7.type with
     |some n=>if n=0 then none else some (.fieldAddr a7.offset x)
     |none=>none
    |none=>none
   | _,_=>none
 | .field s x f=>match C.P.underlying s,C.cg vars x with
   |some (.struct fs),some x=>match fs[f]? with
    |some a7=>(C.shapeOf a7.type).map fun sh=>.field a7.offset sh x
    |none=>none
   | _,_=>none
 | .indexAddr t x i=>match C.P.underlying t,C.cg vars x,C.cg vars i with
   |some (.slice e),some x,some i=>match C.sizeOf e with
    |some n=>if n=0 then none else some (.indexAddr n x i)
    |none=>none
   | _,_,_=>none
 | .index t x i=>match C.P.underlying t,C.cg vars x,C.cg vars i with
   |some .string,some x,some i=>some (.r6 x i)
   | _,_,_=>none
 | .lookup t x i ok=>match C.P.underlying t,C.cg vars x,C.cg vars i with
   |some (.map k e),some x,some i=>match C.jR k,C.zeroV e with
    |some bY,some z=>if u0 z then none else some (.lookup bY z x i ok)
    | _,_=>none
   | _,_,_=>none
 | .mapUpdate t m k v=>match C.P.underlying t,C.cg vars m,C.cg vars k,C.cg vars v with
   |some (.map eI _),some m,some k,some v=>(C.jR eI).map fun bY=>.p8 bY m k v
   | _,_,_,_=>none
 | .insert t m k v=>match C.P.underlying t,C.cg vars m,C.cg vars k,C.cg vars v with
   |some (.map eI _),some m,some k,some v=>(C.jR eI).map fun bY=>.p8 bY m k v
   | _,_,_,_=>none
 | .extract x i=>(C.cg vars x).map fun x=>.extract x i
 | .call {callee:=.value f,args,.. }=>match C.cg vars f,dM (C.cg vars) args.toList with
   |some f,some ay=>some (.call (match f with| .func i=>C.raw i| _=>false) f ay)
   | _,_=>none
 | .call {callee:=.builtin b,args,argTypes}=>C.builtin vars pos b args argTypes
 | _=>none
def op (vars:List Nat)(pos:String)(o:Op):cV:=(C.cX vars pos o).getD .fail
def guard (vars:List Nat)(ops:Array Oper):Option (Nat × Bool)->Option (Option (aj × Bool))
 |none=>some none
 |some (j,want)=>match(ops[j]?).bind (·.dst)with
  |some d=>some (some (if vars.contains d then .var d else .tmp d,want))
  |none=>none
def oper (vars:List Nat)(n:Nat)(ops:Array Oper)(o:Oper):Option bS:=
 match guard vars ops o.guard with
 |some g=>match o.dst with
  |none=>some {dst:=none,op:=C.op vars o.pos o.op,guard:=g}
  |some d=>if d<n then some {dst:=some (d,vars.contains d),op:=C.op vars o.pos o.op,guard:=g}else none
 |none=>none
def zT (ops:Array Oper):Bool:=
 ops.toList.zipIdx.all fun(o,i)=>o.after.all fun e=>match e.ground with| .gcOnly _=>true| _=>decide (e.on<i)
def tmpsOf (xs:Array Operand):List Nat:=xs.toList.filterMap fun| .tmp t=>some t| _=>none
def fV (ops:Array Oper)(o:Oper):List Nat:=
 tmpsOf o.op.operands++(match o.guard with|some (j,_)=>((ops[j]?).bind (·.dst)).toList|none=>[])
def zU (ops:Array Oper):Bool:=
 let b:=CheckFast.beforeF ops
 ops.toList.zipIdx.all fun(o,j)=>ops.toList.zipIdx.all fun(p,i)=>
  match p.dst with
  |none=>true
  |some d=>i==j||!(o.dst==some d||(fV ops o).contains d)||(b.getD (max i j) 0).testBit (min i j)
def yf (ops:Array Oper)(o:Oper)(a:bS):Bool:=
 a.op.operands.all fun
   | .tmp t| .var t=>(fV ops o).contains t
   | _=>true
def Oy (vars:List Nat)(n:Nat)(ops:Array Oper):Option bZ:=match C.CQ,ops.toList.getLast? with
 |[],_=>none
 | _,some h3=>match h3.op,h3.guard with
   | .defer {callee:=.value f,args,.. },none=>match args.toList,dM (C.oper vars n ops) ops.toList.dropLast,C.cg vars f with
     |[],some bM,some mm=>if h3.dst.isNone then some (.zQ bM C.CQ mm)else none
     | _,_,_=>none
   | _,_=>none
 | _,none=>none
def code (vars:List Nat)(n:Nat):Code->Option bZ
 | .skip=>some .skip
 | .region _ ops draw=>match(if draw then none else C.Oy vars n ops)with
   |some r=>some r
   |none=>match dM (C.oper vars n ops) ops.toList with
    |some bM=>if !draw then some (.region bM none)
    else if zT ops&&zU ops&&(ops.toList.zip bM).all (fun(o,a)=>yf ops o a)then some (.region bM (some (CheckFast.beforeF ops).toList))else none
    |none=>none
 | .seq a b=>match code vars n a,code vars n b with
   |some a,some b=>some (.seq a b)
   | _,_=>none
 | .cond c t e=>match C.cg vars c,code vars n t,code vars n e with
   |some c,some t,some e=>some (.cond c t e)
   | _,_,_=>none
 | .block id c=>(code vars n c).map (.block id)
 | .loop c=>(code vars n c).map .loop
 | .rangeFunc f ps a b=>match C.cg vars f,code vars n a,code vars n b with
   |some f,some a,some b=>if ps.all (fun t=>decide (t<n)&&vars.contains t)then some (.rangeFunc f ps.toList a b)else none
   | _,_,_=>none
 | .exit id=>some (.exit id)
 | .ret=>some .ret
 | _=>some .fail
def yg:Code->List Nat
 | .region _ ops _=>(ops.toList.foldl (fun(acc:List Nat × List Nat) o=>
  let g:=match o.guard with|some (j,_)=>((ops[j]?).bind (·.dst)).toList|none=>[]
  let reads:=(g++tmpsOf o.op.operands).filter fun t=>!acc.2.contains t
  (acc.1++reads,o.dst.toList++acc.2)) ([],[])).1
 | .seq a b=>yg a++yg b
 | .cond c t e=>tmpsOf #[c]++yg t++yg e
 | .block _ c| .loop c=>yg c
 | .rangeFunc f ps a b=>tmpsOf #[f]++ps.toList++yg a++yg b
 | _=>[]
def res:ResultVar->Option nd
 | .tmp t=>some (.tmp t)
 | .cell a t=>(C.shapeOf t).map (.cell a)
def r9:List ResultVar->List Nat
 |[]=>[]
 | .tmp t::r=>t::r9 r
 | .cell a _::r=>a::r9 r
def varsOf (f:Func):List Nat:=
 ((List.range (f.params.size+f.nfree)++r9 f.results.toList++(match f.body with|some c=>yg c|none=>[])).eraseDups)
def func (f:Func)(fresh:Bool):Option hY:=
 match f.body with
 |some c=>match C.code (varsOf f) f.ntmps c,dM C.res f.results.toList with
  |some b,some rs=>if f.name== "runtime.NumGoroutine" then none else some {zR:=f.ntmps,body:=b,results:=rs,fresh}
  | _,_=>none
 |none=>none
end Ctx
end Go.Abs
