/- Texts of this claim, joined and written short by a program. -/
import Derived.Calls
set_option linter.unusedVariables false
set_option linter.unusedSimpArgs false
set_option linter.unusedSectionVars false
namespace Go.Abs
set_option linter.defProp false
def aA := @Option.some.injEq
def cD := @Option.map_eq_some_iff
def aK := @Nat.le_refl
def aW := @Option.bind_some
def bw := @Prod.mk.injEq
def cd := @Bool.and_eq_true
def dG := @Option.bind_eq_some_iff
def fy := @List.getElem?_eq_some_iff
def hq := @List.getElem?_append_left
def fl := @Nat.eq_of_beq_eq_true
def cx := @Nat.zero_le
def c4 := @Nat.le_trans
def ma := @List.mem_zipIdx_iff_getElem?
def oV := @List.getElem?_eq_getElem
def eY := @List.prefix_rfl
def dS := @List.mem_cons
def fo := @List.all_eq_true
def eD := @List.map_cons
def Bu := @List.getD_eq_getElem?_getD
def et := @List.cons.inj
def gW := @Array.length_toList
def fm := @List.mem_of_getElem?
def iK := @Array.getElem?_toList
def iL := @List.prefix_append
def ey := @List.mem_map
def eF := @Nat.zero_add
def gX := @Bool.false_eq_true
def k3 := @Nat.le_of_ble_eq_true
def dt := @Bool.true_and
def k4 := @List.getElem?_set_ne
def k5 := @List.mem_cons_of_mem
def iv := @List.length_cons
def n3 := @Nat.exists_eq_add_of_le
def kh := @List.getElem?_map
def kg := @List.length_append
def gg := @Nat.lt_or_ge
def mF := @List.getElem?_eq_none
def kF := @List.flatMap_cons
def nu := @List.mem_iff_getElem?
def jV := @List.mem_append
def jA := @Nat.min_le_left
def n4 := @List.length_map
def wW := @List.getElem?_append_right
def kG := @Bool.or_eq_true
def fQ := @Bool.not_true
def r1 := @Array.getElem?_eq_some_iff
def pW := @List.mem_append_right
def pV := @List.getElem?_cons_zero
def mb := @List.append_assoc
def pX := @List.map_congr_left
def ve := @Array.getD_eq_getD_getElem?
def nt := @List.all_eq_not_any_not
def tf := @List.contains_iff_mem
def tc := @List.getElem?_set_self
def qN := @List.mem_cons_self
def oU := @List.drop_eq_getElem_cons
def pY := @Nat.lt_of_lt_of_le
def pZ := @Bool.not_eq_true'
def oZ := @List.nil_append
def te := @List.getElem?_toArray
def zl := @List.getElem?_zip_eq_some
def oX := @List.cons_append
def oY := @List.map_append
def qQ := @List.length_nil
def r2 := @List.mem_map_of_mem
def asU := @Nat.min_le_right
def r3 := @List.Sublist.refl
def nv := @Nat.min_eq_left
def n5 := @List.map_nil
def td := @List.drop_eq_nil_of_le
def wX := @List.mem_append_left
def qO := @Nat.le_max_right
def tg := @List.any_eq_true
def w0 := @List.not_mem_nil
def th := @List.range'_succ
def oW := @List.length_drop
def JH := @Bool.or_eq_false_iff
def r4 := @Nat.le_max_left
def vh := @List.append_nil
def r5 := @Option.map_some
def p5 := @Nat.ne_of_lt
def vg := @Option.getD_some
def p4 := @Nat.add_assoc
def qR := @List.map_map
def vj := @List.nodup_cons
def qP := @List.length_take
def wZ := @Nat.lt_succ_self
def tj := @Bool.false_or
def vf := @List.length_replicate
def Bv := @List.mem_of_mem_take
def Fa := @List.range_eq_range'
def ti := @Nat.min_eq_right
def E8 := @Array.getElem?_eq_none
def zm := @List.size_toArray
def Bw := @List.replicate_succ
def zn := @List.ext_getElem?
def Px := @Array.getElem?_setIfInBounds_ne
def JD := @List.sublist_append_right
def PA := @List.take_append_drop
def w1 := @Option.map_none
def vi := @List.foldl_cons
def tk := @Nat.min_self
def JL := @List.zip_cons_cons
def E9 := @List.mem_of_mem_drop
def JG := @Nat.mul_le_mul_right
def ki := @Ne.symm
def JE := @List.length_eq_zero_iff
def Y7 := @List.getElem?_cons_succ
def r6 := @List.drop_drop
def BB := @Bool.and_assoc
def o0 := @Bool.not_false
def Bx := @Array.size_append
def JN := @Nat.lt_succ_of_lt
def Fe := @List.nodup_append
def wY := @List.take_add_one
def Bz := @Option.some.inj
def zo := @List.length_set
def JF := @List.take_of_length_le
def PO := @List.mem_flatMap
def PJ := @List.mem_singleton
def Fb := @Nat.add_right_comm
def Fc := @List.pairwise_cons
def tl := @Nat.add_mul
def Py := @List.pairwise_iff_getElem
def Y2 := @Array.toList_eraseIdxIfInBounds
def zp := @List.cons.injEq
def Ff := @List.flatten_cons
def BD := @Nat.succ_mul
def Y3 := @Array.eq_empty_of_size_eq_zero
def Pz := @Int.eq_ofNat_of_zero_le
def JI := @List.flatMap_append
def zq := @Bool.and_self
def JJ := @List.filterMap_cons
def Fg := @Nat.max_eq_right
def Fh := @List.getElem_map
def JQ := @List.getElem_mem
def r7 := @Nat.le_of_lt
def zr := @Nat.add_zero
def Fj := @Nat.max_eq_left
def zt := @Nat.beq_refl
def JR := @List.find?_cons
def BA := @Bool.eq_iff_iff
def vk := @Bool.and_true
def JM := @Int.toNat_natCast
def atG := @Bool.not_eq_false
def azy := @Array.getElem?_append_left
def PB := @List.set_append_left
def PD := @List.pairwise_append
def Fk := @List.nodup_nil
def Y4 := @Array.filter_eq_empty_iff
def JS := @List.mem_range
def JO := @Nat.le_add_right
def JP := @List.map_toArray
def PF := @List.toList_toArray
def XA := @List.length_pos_iff
def PG := @List.getElem?_drop
def JK := @List.getElem?_take
def aun := @Nat.add_sub_cancel_left
def PH := @Array.foldl_toList
def PI := @Nat.pos_of_ne_zero
def Y5 := @List.eraseIdx_cons_zero
def Y6 := @List.eraseIdx_cons_succ
def PK := @List.mem_filterMap
def PL := @List.findIdx?_cons
def Y8 := @List.drop_of_length_le
def Y9 := @Array.contains_iff_mem
def auo := @List.sublist_cons_self
def Fm := @Nat.le_succ
def PM := @Array.toList_push
def XC := @Bool.eq_false_iff
def M9 := @Int.mul_le_mul
def BC := @Bool.false_and
def PN := @List.drop_append
def Fi := @List.take_length
def BF := @Go.Calls.mono
inductive V where
 | bool (b : Bool)
 | int (k : IntKind) (n : Int)
 | str (s : List UInt8)
 | c0
 | emp
 | list (es : Nat) (ds : List V)
 | agg (vs : List V)
 | ba (vs : List V)
 | iM
 | ptr (l o : Nat)
 | gw (l es i f tag : Nat)
 | dB (vs : List V) (f : Nat)
 | cQ (l es off len tag : Nat)
 | hU
 | map (l : Nat)
 | jB
 | fn (i : Nat) (first caps : List V)
 | yield (l : Nat)
 | iN
 | iface (t : Nat) (v : V)
 | undef
 deriving Inhabited
inductive aj where
 | tmp (t : Nat)
 | var (t : Nat)
 | const (v : V)
 | func (i : Nat)
 deriving Inhabited
inductive cH where
 | mv (x : aj)
 | pick (c a b : aj)
 | alloc (z : List V)
 | box (x : aj)
 | build (z : List V) (parts : List (Nat × Nat × aj))
 | lit (es : Nat) (z : List V) (len : Nat) (parts : List (Nat × aj)) (mG : Bool)
 | load (sh : Option Nat) (x : aj)
 | store (n : Nat) (a x : aj)
 | nilCheck (x : aj)
 | bin (op : BinOp) (x y : aj)
 | w2 (neg : Bool) (ks : List Nat) (x y : aj)
 | qS (kind : Nat) (neg : Bool) (x y : aj)
 | un (op : UnOp) (x : aj)
 | conv (k : IntKind) (x : aj)
 | zu (t : Nat) (x : aj)
 | r8 (i : Nat) (first caps : List aj)
 | mkMap
 | mkSlice (es : Nat) (z : List V) (bytes : Nat) (l c : aj)
 | o1 (x : aj) (lo hi : Option aj)
 | r9 (es : Nat) (x : aj) (lo hi mx : Option aj)
 | fieldAddr (off : Nat) (x : aj)
 | field (off : Nat) (sh : Option Nat) (x : aj)
 | indexAddr (es : Nat) (x i : aj)
 | p6 (x i : aj)
 | lookup (kind : Nat) (z : V) (x i : aj) (ok : Bool)
 | o2 (kind : Nat) (m k v : aj)
 | w3 (kind : Nat) (m k : aj)
 | BG (a b : aj)
 | tn (x : aj)
 | extract (x : aj) (i : Nat)
 | len (kind : Nat) (x : aj)
 | append (es bytes : Nat) (a b : aj)
 | tp (mx : Bool) (x y : aj)
 | copy (es : Nat) (a b : aj)
 | call (raw : Bool) (f : aj) (args : List aj)
 | fail
 deriving Inhabited
structure b3 where
 dst : Option (Nat × Bool)
 op : cH
 guard : Option (aj × Bool)
 deriving Inhabited
inductive cm where
 | skip
 | region (ops : List b3) (dK : Option (List Nat))
 | w4 (ops : List b3) (ok : List Nat) (f : aj)
 | seq (a b : cm)
 | cond (c : aj) (t e : cm)
 | block (id : Nat) (body : cm)
 | loop (body : cm)
 | rangeFunc (f : aj) (params : List Nat) (assign body : cm)
 | exit (id : Nat)
 | ret
 | fail
 deriving Inhabited
inductive lN where
 | tmp (t : Nat)
 | cell (a : Nat) (sh : Option Nat)
 deriving Inhabited
structure iw where
 vl : Nat
 body : cm
 results : List lN
 fresh : Bool
 deriving Inhabited
abbrev Env := List (Nat × V)
inductive X where
 | normal
 | exit (id : Nat)
 | ret
 deriving DecidableEq, Inhabited
inductive cE where
 | cells (vs : List V)
 | row (es : Nat) (ds : List V) (dW : Bool)
 | map (bk : List (V × V))
 | loop (st : LoopState) (sa : X) (env : Env) (params : List Nat) (assign body : cm)
 | gone
 deriving Inhabited
abbrev Heap := List cE
structure au where
 aE : Env
 aw : Env
 H : Heap
 low : Nat
 ro : Option Nat := none
 deriving Inhabited
def aG : V -> List V
 | .agg vs => vs
 | v => [v]
mutual
def bO : V -> Bool
 | .bool _ | .int _ _ | .str _ | .c0 | .emp | .list _ _ | .iM | .hU | .jB | .iN => true
 | .agg vs | .ba vs => ct vs
 | .iface _ v => bO v
 | .fn _ a b => ct a && ct b
 | _ => false
def ct : List V -> Bool
 | [] => true
 | v :: r => bO v && ct r
end
mutual
def flat : V -> Bool
 | .bool _ | .int _ _ | .str _ | .c0 | .emp | .iM | .hU | .jB | .iN => true
 | .agg vs | .ba vs => tq vs
 | _ => false
def tq : List V -> Bool
 | [] => true
 | v :: r => flat v && tq r
end
mutual
def old (n : Nat) : V -> Bool
 | .ptr l _ | .gw l _ _ _ _ | .cQ l _ _ _ _ | .map l | .yield l => decide (l < n)
 | .agg vs | .ba vs => fc n vs
 | .fn _ a b => fc n a && fc n b
 | .iface _ v => old n v
 | .undef => false
 | _ => true
def fc (n : Nat) : List V -> Bool
 | [] => true
 | v :: r => old n v && fc n r
end
def tr : V -> Bool
 | .undef => true
 | _ => false
def hJ (cs : List V) (o : Nat) : Option Nat -> Option V
 | none => cs[o]?
 | some n => if o + n <= cs.length then some (.agg ((cs.drop o).take n)) else none
def setCells (cs : List V) (o : Nat) : List V -> List V
 | [] => cs
 | x :: xs => setCells (cs.set o x) (o + 1) xs
def bJ : Env -> Nat -> V
 | [], _ => .undef
 | (k, v) :: r, t => if k = t then v else bJ r t
def fR : Env -> Nat -> V -> Env
 | [], t, v => [(t, v)]
 | (k, u) :: r, t, v => if k = t then (k, v) :: r else (k, u) :: fR r t v
def aj.ag (aE aw : Env) : aj -> V
 | .tmp t => bJ aE t
 | .var t => bJ aw t
 | .const v => v
 | .func i => .fn i [] []
def jk (H : Heap) (sh : Option Nat) : V -> Option V
 | .ptr l o => match H[l]? with
   | some (.cells vs) => hJ vs o sh
   | _ => none
 | .gw l es i f tag => match H[l]? with
   | some (.row bC ds _) => if bC = es /\ ds.length = tag then (ds[i]?).bind fun d => hJ (aG d) f sh else none
   | _ => none
 | .dB vs f => hJ vs f sh
 | _ => none
def vm (d : V) (f : Nat) (xs : List V) : Option V :=
 match d with
 | .agg vs => if f + xs.length <= vs.length then some (.agg (setCells vs f xs)) else none
 | _ => match f, xs with
   | 0, [x] => some x
   | _, _ => none
def eP : V -> Bool
 | .agg _ | .ba _ | .undef => false
 | _ => true
def b4 : List V -> Bool
 | [] => true
 | v :: r => eP v && b4 r
def plainCell : V -> Bool
 | .agg _ | .ba _ | .undef | .dB .. | .gw .. => false
 | _ => true
def k6 : List V -> Bool
 | [] => true
 | v :: r => plainCell v && k6 r
def iO (H : Heap) (n : Nat) (a v : V) : Option (Heap × Nat) :=
 match a with
 | .ptr l o => match H[l]? with
   | some (.cells vs) => if (aG v).length = n /\ o + n <= vs.length /\ b4 (aG v) = true then some (H.set l (.cells (setCells vs o (aG v))), l) else none
   | _ => none
 | .gw l es i f tag => match H[l]? with
   | some (.row bC ds false) =>
     if bC = es /\ ds.length = tag /\ (aG v).length = n /\ k6 (aG v) = true then
      match ds[i]? with
      | some d => match vm d f (aG v) with
        | some d' => some (H.set l (.row es (ds.set i d') false), l)
        | none => none
      | none => none
     else none
   | _ => none
 | _ => none
def kj (f : Heap -> Nat -> V -> Option (V × Heap × Nat)) (H : Heap) (low : Nat) : List V -> Option (List V × Heap × Nat)
 | [] => some ([], H, low)
 | v :: r => match f H low v with
   | some (v', H1, b0) => match kj f H1 b0 r with
     | some (n6, H2, dv) => some (v' :: n6, H2, dv)
     | none => none
   | none => none
def eg : Nat -> Heap -> Nat -> V -> Option (V × Heap × Nat)
 | 0, H, low, v => if bO v then some (v, H, low) else none
 | n + 1, H, low, v =>
   if bO v then some (v, H, low) else
   match v with
   | .agg vs => match kj (eg n) H low vs with
     | some (vs', H', low') => some (.agg vs', H', low')
     | none => none
   | .ba vs => match kj (eg n) H low vs with
     | some (vs', H', low') => some (.ba vs', H', low')
     | none => none
   | .cQ l es off len tag => match H[l]? with
     | some (.row bC ds dW) =>
       if bC = es /\ ds.length = tag /\ off + len <= ds.length then
        if ct ds = true then some (.list es ((ds.drop off).take len), if dW then H else H.set l (.row es ds true), if dW then low else min low l)
        else match kj (eg n) H low ds with
         | some (ds', H', low') => match H'[l]? with
           | some (.row PQ PR false) =>
             if PQ = es /\ PR.length = tag /\ ct ds' = true then some (.list es ((ds'.drop off).take len), H'.set l (.row es ds' true), min low' l) else none
           | _ => none
         | none => none
       else none
     | _ => none
   | v => some (v, H, low)
def gl (H : Heap) (low : Nat) (v : V) : Option (V × Heap × Nat) := eg 16 H low v
def fe (H : Heap) (low : Nat) : List V -> Option (List V × Heap × Nat)
 | [] => some ([], H, low)
 | v :: r => match gl H low v with
   | some (v', H1, b0) => match fe H1 b0 r with
     | some (n6, H2, dv) => some (v' :: n6, H2, dv)
     | none => none
   | none => none
def elems (H : Heap) (es : Nat) : V -> Option (List V)
 | .c0 | .emp => some []
 | .list bC ds => if bC = es then some ds else none
 | .cQ l bC off len tag => match H[l]? with
   | some (.row eQ ds _) => if bC = es /\ eQ = es /\ ds.length = tag /\ off + len <= ds.length then some ((ds.drop off).take len) else none
   | _ => none
 | _ => none
def o3 : V -> Option Bool
 | .bool b => some b
 | _ => none
def jW : V -> Option Nat
 | .int _ n => if 0 <= n then some n.toNat else none
 | _ => none
def dY (op : BinOp) (x y : V) : Option V :=
 match op, x, y with
 | .shl, .int k a, .int _ b => if 0 <= b /\ b.toNat <= k.bits then some (.int k (k.wrap (a * 2 ^ b.toNat))) else none
 | .shr, .int k a, .int _ b => if 0 <= b /\ b.toNat <= k.bits then some (.int k (a / 2 ^ b.toNat)) else none
 | op, .int k a, .int bs b =>
   if k ≠ bs then none else
   match op with
   | .add => some (.int k (k.wrap (a + b)))
   | .sub => some (.int k (k.wrap (a - b)))
   | .mul => some (.int k (k.wrap (a * b)))
   | .quo => if b = 0 then none else some (.int k (k.wrap (a.tdiv b)))
   | .rem => if b = 0 then none else some (.int k (a.tmod b))
   | .eql => some (.bool (a == b))
   | .neq => some (.bool (a != b))
   | .lss => some (.bool (decide (a < b)))
   | .leq => some (.bool (decide (a <= b)))
   | .gtr => some (.bool (decide (a > b)))
   | .geq => some (.bool (decide (a >= b)))
   | .and => some (.int k (k.wrap ((BitVec.ofInt k.bits a &&& BitVec.ofInt k.bits b).toNat)))
   | _ => none
 | .add, .str a, .str b => if a.length + b.length <= 2 ^ 40 then some (.str (a ++ b)) else none
 | .eql, .str a, .str b => some (.bool (a == b))
 | .neq, .str a, .str b => some (.bool (a != b))
 | _, _, _ => none
def tt (kind : Nat) (x y : V) : Option Bool :=
 match kind, x, y with
 | 0, .iM, .iM => some true
 | 0, .ptr _ _, .iM | 0, .iM, .ptr _ _ => some false
 | 1, .c0, .c0 => some true
 | 1, .emp, .c0 | 1, .list _ _, .c0 | 1, .cQ _ _ _ _ _, .c0 => some false
 | 2, .jB, .jB => some true
 | 2, .fn _ _ _, .jB => some false
 | 3, .iN, .iN => some true
 | 3, .iface _ _, .iN => some false
 | 4, .bool a, .bool b => some (a == b)
 | _, _, _ => none
def o4 (op : UnOp) (x : V) : Option V :=
 match op, x with
 | .neg, .int k n => some (.int k (k.wrap (0 - n)))
 | .not, .bool b => some (.bool !b)
 | _, _ => none
def hX : Nat -> V -> V -> Option Bool
 | 0, .int k a, .int bs b => if k = bs then some (a == b) else none
 | 1, .str a, .str b => some (a == b)
 | 2, .bool a, .bool b => some (a == b)
 | _, _, _ => none
def jC : List Nat -> List V -> List V -> Option Bool
 | [], [], [] => some true
 | k :: ks, a :: x, b :: y => match hX k a b with
   | some e => match jC ks x y with
     | some e' => some (e && e')
     | none => none
   | none => none
 | _, _, _ => none
def hv (kind : Nat) (k : V) : List (V × V) -> Option (Option V)
 | [] => some none
 | (bs, v) :: r => match hX kind k bs with
   | some true => some (some v)
   | some false => hv kind k r
   | none => none
def kH (kind : Nat) (k v : V) : List (V × V) -> List (V × V)
 | [] => [(k, v)]
 | (bs, u) :: r => if hX kind k bs = some true then (k, v) :: r else (bs, u) :: kH kind k v r
def hY (kind : Nat) (k : V) : List (V × V) -> List (V × V)
 | [] => []
 | (bs, u) :: r => if hX kind k bs = some true then r else (bs, u) :: hY kind k r
def bytesOf : List V -> Option (List UInt8)
 | [] => some []
 | .int .u8 n :: r => (bytesOf r).map (UInt8.ofNat n.toNat :: ·)
 | _ => none
def tu (cs : List V) : List (Nat × Nat × V) -> Option (List V)
 | [] => some cs
 | (off, n, v) :: r => if (aG v).length = n /\ off + n <= cs.length /\ b4 (aG v) = true then tu (setCells cs off (aG v)) r else none
def tv (es : Nat) (ds : List V) : List (Nat × V) -> Option (List V)
 | [] => some ds
 | (i, v) :: r => if (aG v).length = es /\ i < ds.length /\ b4 (aG v) = true then tv es (ds.set i v) r else none
def lO (z : List V) : V := match z with | [x] => x | _ => .agg z
def eG (ag : aj -> V) (JV : Nat) : Option aj -> Option Nat
 | none => some JV
 | some x => jW (ag x)
def step (ag : aj -> V) (H : Heap) (low : Nat) : cH -> Option (V × Heap × Nat)
 | .mv x => some (ag x, H, low)
 | .pick c a b => (o3 (ag c)).map fun t => (if t then ag a else ag b, H, low)
 | .alloc z => some (.ptr H.length 0, H ++ [.cells z], low)
 | .box x => if b4 (aG (ag x)) then some (.ptr H.length 0, H ++ [.cells (aG (ag x))], low) else none
 | .build z parts => (tu z (parts.map fun p => (p.1, p.2.1, ag p.2.2))).map fun cs => (.agg cs, H, low)
 | .lit es z len parts mG => match fe H low (parts.map fun p => ag p.2) with
   | some (vs, H', low') => match tv es (List.replicate len (lO z)) ((parts.zip vs).map fun (p, v) => (p.1, v)) with
     | some ds =>
       if mG then (if ct ds then some (if len = 0 then .emp else .list es ds, H', low') else none)
       else if len = 0 then some (.emp, H', low') else some (.cQ H'.length es 0 len len, H' ++ [.row es ds false], low')
     | none => none
   | none => none
 | .load sh x => (jk H sh (ag x)).map fun v => (v, H, low)
 | .store n a x => (iO H n (ag a) (ag x)).map fun (H', l) => (.undef, H', min low l)
 | .nilCheck x => match ag x with
   | .ptr l o => some (.ptr l o, H, low)
   | .gw l es i f tag => some (.gw l es i f tag, H, low)
   | .dB vs f => some (.dB vs f, H, low)
   | .fn i a b => some (.fn i a b, H, low)
   | _ => none
 | .bin op x y => (dY op (ag x) (ag y)).map fun v => (v, H, low)
 | .w2 neg ks x y => match ag x, ag y with
   | .agg a, .agg b => (jC ks a b).map fun e => (.bool (if neg then !e else e), H, low)
   | _, _ => none
 | .qS kind neg x y => (tt kind (ag x) (ag y)).map fun e => (.bool (if neg then !e else e), H, low)
 | .un op x => (o4 op (ag x)).map fun v => (v, H, low)
 | .conv k x => match ag x with
   | .int _ n => some (.int k (k.wrap n), H, low)
   | _ => none
 | .zu t x => match gl H low (ag x) with
   | some (v, H', low') => some (.iface t v, H', low')
   | none => none
 | .r8 i a b => some (.fn i (a.map ag) (b.map ag), H, low)
 | .mkMap => some (.map H.length, H ++ [.map []], low)
 | .mkSlice es z bytes l c => match ag l, ag c with
   | .int _ n, .int _ m => if n = m /\ 0 <= n /\ n * (bytes + 1) <= 2 ^ 40 then
     (if n = 0 then some (.emp, H, low) else
       some (.cQ H.length es 0 n.toNat n.toNat, H ++ [.row es (List.replicate n.toNat (lO z)) false], low)) else none
   | _, _ => none
 | .o1 x lo hi => match ag x with
   | .str s => match eG ag 0 lo, eG ag s.length hi with
     | some a, some b => if a <= b /\ b <= s.length then some (.str ((s.take b).drop a), H, low) else none
     | _, _ => none
   | _ => none
 | .r9 es x lo hi mx => match ag x with
   | .c0 => match eG ag 0 lo, eG ag 0 hi, eG ag 0 mx with
     | some 0, some 0, some 0 => some (.c0, H, low)
     | _, _, _ => none
   | .emp => match eG ag 0 lo, eG ag 0 hi, eG ag 0 mx with
     | some 0, some 0, some 0 => some (.emp, H, low)
     | _, _, _ => none
   | .list bC ds => match eG ag 0 lo, eG ag ds.length hi with
     | some a, some b => if a <= b /\ b <= ds.length /\ bC = es then
       match mx with
       | none => some (.list es ((ds.take b).drop a), H, low)
       | some m => if jW (ag m) = some 0 /\ b = 0 then some (.emp, H, low) else none
      else none
     | _, _ => none
   | .cQ l bC off len tag => match eG ag 0 lo, eG ag len hi with
     | some a, some b => if a <= b /\ b <= len /\ bC = es then
       match mx with
       | none => match H[l]? with
         | some (.row eQ ds _) => if ds.length = tag /\ eQ = es then (if a < b then some (.cQ l es (off + a) (b - a) tag, H, low) else some (.list es [], H, low)) else none
         | _ => none
       | some m => if jW (ag m) = some 0 /\ b = 0 then some (.emp, H, low) else none
      else none
     | _, _ => none
   | _ => none
 | .fieldAddr off x => match ag x with
   | .ptr l o => some (.ptr l (o + off), H, low)
   | .gw l es i f tag => some (.gw l es i (f + off) tag, H, low)
   | .dB vs f => some (.dB vs (f + off), H, low)
   | _ => none
 | .field off sh x => match ag x with
   | .agg vs => (hJ vs off sh).map fun v => (v, H, low)
   | _ => none
 | .indexAddr es x i => match jW (ag i) with
   | some i => match ag x with
     | .list bC ds => if bC = es then (ds[i]?).map fun d => (.dB (aG d) 0, H, low) else none
     | .cQ l bC off len tag => match H[l]? with
       | some (.row eQ ds _) => if bC = es /\ eQ = es /\ ds.length = tag /\ i < len /\ off + len <= ds.length then some (.gw l es (off + i) 0 tag, H, low) else none
       | _ => none
     | _ => none
   | none => none
 | .p6 x i => match ag x, jW (ag i) with
   | .str s, some i => (s[i]?).map fun c => (.int .u8 c.toNat, H, low)
   | _, _ => none
 | .lookup kind z x i ok => match ag x with
   | .hU => some (if ok then .ba [z, .bool false] else z, H, low)
   | .map l => match H[l]? with
     | some (.map bk) => match hv kind (ag i) bk with
       | some (some v) => some (if ok then .ba [v, .bool true] else v, H, low)
       | some none => some (if ok then .ba [z, .bool false] else z, H, low)
       | none => none
     | _ => none
   | _ => none
 | .o2 kind m k v => match gl H low (ag v) with
   | some (v', H', low') => if tr v' then none else match ag m with
     | .map l => match H'[l]? with
       | some (.map bk) => match hv kind (ag k) bk with
         | some _ => some (.undef, H'.set l (.map (kH kind (ag k) v' bk)), min low' l)
         | none => none
       | _ => none
     | _ => none
   | none => none
 | .w3 kind m k => match ag m with
   | .hU => some (.ba [], H, low)
   | .map l => match H[l]? with
     | some (.map bk) => match hv kind (ag k) bk with
       | some _ => some (.ba [], H.set l (.map (hY kind (ag k) bk)), min low l)
       | none => none
     | _ => none
   | _ => none
 | .BG a b => match ag b with
   | .str s =>
     if s.isEmpty then
      match ag a with
      | .c0 => some (.c0, H, low)
      | .emp => some (.emp, H, low)
      | .cQ l bC off len tag => match H[l]? with
        | some (.row _ ds _) => if ds.length = tag then some (.cQ l bC off len tag, H, low) else none
        | _ => none
      | _ => none
     else
      let xs : List V := s.map fun c => .int .u8 c.toNat
      match ag a with
      | .c0 => if xs.length * 2 <= 2 ^ 40 then some (.cQ H.length 1 0 xs.length xs.length, H ++ [.row 1 xs false], low) else none
      | .emp => if xs.length * 2 <= 2 ^ 40 then some (.cQ H.length 1 0 xs.length xs.length, H ++ [.row 1 xs false], low) else none
      | .cQ l bC off len tag => match H[l]? with
        | some (.row eQ ds false) =>
          if bC = 1 /\ eQ = 1 /\ ds.length = tag /\ off = 0 /\ len = tag /\ (len + xs.length) * 2 <= 2 ^ 40 then
           some (.cQ l 1 0 (len + xs.length) (len + xs.length), H.set l (.row 1 (ds ++ xs) false), min low l)
          else none
        | _ => none
      | _ => none
   | _ => none
 | .tn x => match elems H 1 (ag x) with
   | some ds => (bytesOf ds).map fun s => (.str s, H, low)
   | none => none
 | .extract x i => match ag x with
   | .ba vs => (vs[i]?).map fun v => (v, H, low)
   | _ => none
 | .len kind x => match kind, ag x with
   | 0, .str s => some (.int .i64 s.length, H, low)
   | 1, .c0 | 1, .emp => some (.int .i64 0, H, low)
   | 1, .list _ ds => some (.int .i64 ds.length, H, low)
   | 1, .cQ l es _ len tag => match H[l]? with
     | some (.row bC ds _) => if bC = es /\ ds.length = tag then some (.int .i64 len, H, low) else none
     | _ => none
   | 2, .hU => some (.int .i64 0, H, low)
   | 2, .map l => match H[l]? with
     | some (.map bk) => some (.int .i64 bk.length, H, low)
     | _ => none
   | _, _ => none
 | .append es bytes a b => match elems H es (ag b) with
   | some xs => match fe H low xs with
     | some (xs, H', low') =>
       if xs.isEmpty then
        match ag a with
        | .c0 => some (.c0, H', low')
        | .emp => some (.emp, H', low')
        | .list bC ds => some (.list bC ds, H', low')
        | .cQ l bC off len tag => match H'[l]? with
          | some (.row _ ds _) => if ds.length = tag then some (.cQ l bC off len tag, H', low') else none
          | _ => none
        | _ => none
       else if b4 (xs.flatMap aG) = false then none else
       match ag a with
       | .c0 => if xs.length * (bytes + 1) <= 2 ^ 40 then
         some (.cQ H'.length es 0 xs.length xs.length, H' ++ [.row es xs false], low') else none
       | .emp => if xs.length * (bytes + 1) <= 2 ^ 40 then
         some (.cQ H'.length es 0 xs.length xs.length, H' ++ [.row es xs false], low') else none
       | .cQ l bC off len tag => match H'[l]? with
         | some (.row eQ ds false) =>
           if bC = es /\ eQ = es /\ ds.length = tag /\ off = 0 /\ len = tag /\ (len + xs.length) * (bytes + 1) <= 2 ^ 40 then
            some (.cQ l es 0 (len + xs.length) (len + xs.length), H'.set l (.row es (ds ++ xs) false), min low' l)
           else none
         | _ => none
       | _ => none
     | none => none
   | none => none
 | .tp mx x y => match ag x, ag y with
   | .int k a, .int bs b => if k = bs then some (.int k (if mx then max a b else min a b), H, low) else none
   | _, _ => none
 | .copy es a b => match ag a, elems H es (ag b) with
   | .c0, some _ | .emp, some _ => some (.int .i64 0, H, low)
   | .cQ l bC off len tag, some xs => match H[l]? with
     | some (.row eQ ds false) =>
       if bC = es /\ eQ = es /\ ds.length = tag /\ off + len <= ds.length /\ k6 (xs.flatMap aG) = true then
        some (.int .i64 ((min len xs.length : Nat) : Int), H.set l (.row es (ds.take off ++ xs.take len ++ ds.drop (off + min len xs.length)) false), min low l)
       else none
     | _ => none
   | _, _ => none
 | .call _ _ _ => none
 | .fail => none
abbrev c3 := V -> List V -> Heap -> Option (V × Heap × Nat)
def gP (aE aw : Env) : Option (aj × Bool) -> Option Bool
 | none => some true
 | some (t, b) => match t.ag aE aw with
   | .bool c => some (c == b)
   | .ba [] => some false
   | _ => none
def au.put (st : au) : Option (Nat × Bool) -> V -> au
 | none, _ => st
 | some (t, true), v => { st with aw := fR st.aw t v }
 | some (t, false), v => { st with aE := (t, v) :: st.aE }
def b9 (call : c3) (ag : aj -> V) (H : Heap) (low : Nat) : cH -> Option (V × Heap × Nat)
 | .call true f args => match call (ag f) (args.map ag) H with
   | some (v, H', l) => some (v, H', min low l)
   | none => none
 | .call false f args => match fe H low (args.map ag) with
   | some (vs, H', low') => match call (ag f) vs H' with
     | some (v, Fo, l) => if flat v = true /\ H'.length <= l then some (v, H, low) else some (v, Fo, min low' l)
     | none => none
   | none => none
 | op => step ag H low op
def fJ (H H' : Heap) (low : Nat) : Bool := decide (low < H.length) || H'.length != H.length
def c9 (call : c3) : List b3 -> au -> List Bool -> Option (au × List Bool)
 | [], st, wr => some (st, wr.reverse)
 | o :: r, st, wr =>
   match gP st.aE st.aw o.guard with
   | some true => match b9 call (aj.ag st.aE st.aw) st.H st.H.length o.op with
     | some (v, H', low') => c9 call r ({ st with H := H', low := min st.low low' }.put o.dst v) (fJ st.H H' low' :: wr)
     | none => none
   | some false => c9 call r (st.put o.dst (.ba [])) (false :: wr)
   | none => none
def gm : cH -> Bool
 | .mv _ | .pick .. | .build .. | .nilCheck _ | .bin .. | .w2 .. | .qS .. | .un .. | .conv .. | .r8 .. | .o1 .. | .fieldAddr .. | .field .. | .p6 .. | .extract .. | .tp .. => false
 | _ => true
def cH.operands : cH -> List aj
 | .mv x | .box x | .load _ x | .nilCheck x | .un _ x | .conv _ x | .zu _ x | .fieldAddr _ x | .field _ _ x | .extract x _ | .len _ x => [x]
 | .pick a b c => [a, b, c]
 | .alloc _ | .mkMap | .fail => []
 | .build _ parts => parts.map (·.2.2)
 | .lit _ _ _ parts _ => parts.map (·.2)
 | .store _ a x | .bin _ a x | .w2 _ _ a x | .qS _ _ a x | .mkSlice _ _ _ a x | .indexAddr _ a x | .p6 a x | .lookup _ _ a x _ | .append _ _ a x | .tp _ a x | .copy _ a x => [a, x]
 | .r8 _ a b => a ++ b
 | .o1 x lo hi => x :: (lo.toList ++ hi.toList)
 | .r9 _ x lo hi mx => x :: (lo.toList ++ hi.toList ++ mx.toList)
 | .o2 _ m k v => [m, k, v]
 | .w3 _ m k => [m, k]
 | .BG a b => [a, b]
 | .tn x => [x]
 | .call _ f args => f :: args
def vn (dK : List Nat) (ops : List b3) (wr : List Bool) : Bool :=
 if wr.any id then
  (wr.zipIdx).all fun (w, i) => !w || (ops.zipIdx).all fun (o, j) =>
    !gm o.op || i == j || (if j < i then (dK.getD i 0).testBit j else (dK.getD j 0).testBit i)
 else true
def vo (ops : List b3) : Bool := ops.all fun o => !gm o.op || match o.op, o.guard with
 | .mkSlice .., none => true
 | _, _ => false
def p7 (dK : List Nat) (ops : List b3) (wr : List Bool) : Bool := vn dK ops wr || vo ops
mutual
def dN : V -> V -> Bool
 | .bool a, .bool b => a == b
 | .int k n, .int bs m => decide (k = bs) && decide (n = m)
 | .str s, .str ar => decide (s = ar)
 | .c0, .c0 | .emp, .emp | .iM, .iM | .hU, .hU | .jB, .jB | .iN, .iN | .undef, .undef => true
 | .list e ds, .list e' ds' => decide (e = e') && mc ds ds'
 | .agg a, .agg b | .ba a, .ba b => mc a b
 | .ptr l o, .ptr fp o' => decide (l = fp) && decide (o = o')
 | .gw a b c d e, .gw bf eE c' d' e' => decide (a = bf) && (decide (b = eE) && (decide (c = c') && (decide (d = d') && decide (e = e'))))
 | .dB vs f, .dB vs' k7 => mc vs vs' && decide (f = k7)
 | .cQ a b c d e, .cQ bf eE c' d' e' => decide (a = bf) && (decide (b = eE) && (decide (c = c') && (decide (d = d') && decide (e = e'))))
 | .map l, .map fp | .yield l, .yield fp => decide (l = fp)
 | .fn i a b, .fn w5 bf eE => decide (i = w5) && (mc a bf && mc b eE)
 | .iface t v, .iface e5 v' => decide (t = e5) && dN v v'
 | _, _ => false
def mc : List V -> List V -> Bool
 | [], [] => true
 | a :: r, b :: s => dN a b && mc r s
 | _, _ => false
end
def gD (call : c3) : List b3 -> au -> Option (List au)
 | [], st => some [st]
 | o :: r, st =>
   match gP st.aE st.aw o.guard with
   | some true => match b9 call (aj.ag st.aE st.aw) st.H st.H.length o.op with
     | some (v, H', low') => (gD call r ({ st with H := H', low := min st.low low' }.put o.dst v)).map (st :: ·)
     | none => none
   | some false => (gD call r (st.put o.dst (.ba []))).map (st :: ·)
   | none => none
def qT (dK : List Nat) (i j : Nat) : Bool := if j < i then (dK.getD i 0).testBit j else (dK.getD j 0).testBit i
def kk (call : c3) (q : b3 × au × Heap) : Bool :=
 match gP q.2.1.aE q.2.1.aw q.1.guard with
 | some false => true
 | some true => match b9 call (aj.ag q.2.1.aE q.2.1.aw) q.2.1.H q.2.1.H.length q.1.op with
   | some (v, _, _) => match b9 call (aj.ag q.2.1.aE q.2.1.aw) q.2.2 q.2.2.length q.1.op with
     | some (v', H', low') => dN v v' && !fJ q.2.2 H' low'
     | none => false
   | none => false
 | none => false
def JW (dK : List Nat) (wr : List Bool) : Bool :=
 wr.zipIdx.all fun (w, i) => !w || wr.zipIdx.all fun (w', j) => !w' || i == j || qT dK i j
def JX (dK : List Nat) (ops : List b3) (wr : List Bool) (cB : List au) : List (b3 × au × Heap) :=
 ops.zipIdx.flatMap fun (o, j) => if !gm o.op || wr.getD j false then [] else
  cB.zipIdx.flatMap fun (BH, k) => if k == j || (k != 0 && !wr.getD (k - 1) false) || wr.zipIdx.any (fun (w, i) => w && (i != j && (qT dK i j && (decide (i < j) != decide (i < k))))) then [] else
    match cB[j]? with
    | some Fp => [(o, Fp, BH.H)]
    | none => []
def sb (call : c3) (dK : List Nat) (ops : List b3) (wr : List Bool) (st : au) : Bool :=
 match gD call ops st with
 | some cB => JW dK wr && (JX dK ops wr cB).all (kk call)
 | none => false
def BI (o : b3) : Bool := match o.op, o.guard with
 | .alloc _, none => true
 | _, _ => false
def jX (ops : List b3) : Nat := (ops.takeWhile fun o => !BI o).length
def n7 (ops : List b3) : Nat := jX ops + ((ops.drop (jX ops)).takeWhile BI).length
def vp (dK : List Nat) (ops : List b3) (wr : List Bool) : Bool :=
 let p := jX ops
 let q := n7 ops
 (wr.take p).all (!·) && ((wr.zipIdx).all fun (w, i) => !w || Nat.blt i q || (ops.zipIdx).all fun (o, j) => !gm o.op || Nat.blt j p || i == j || qT dK i j) &&
   (ops.zipIdx).all fun (o, j) => !gm o.op || Nat.blt j q || (List.range' p (q - p)).all fun i => qT dK i j
def zv (ops : List b3) (cB : List au) : List (b3 × au × Heap) := (cB.drop (n7 ops)).flatMap fun T =>
 ((ops.zip cB).take (jX ops)).filterMap fun (o, s) => if gm o.op then some (o, s, T.H) else none
def n8 (call : c3) (dK : List Nat) (ops : List b3) (wr : List Bool) (st : au) : Bool :=
 sb call dK ops wr st || match gD call ops st with
  | some cB => vp dK ops wr && (zv ops cB).all (kk call)
  | none => false
def iter (f : au -> Option (X × au)) : Nat -> au -> Option (X × au)
 | 0, _ => none
 | n + 1, st => match f st with
   | some (.normal, aU) => iter f n aU
   | r => r
def zw : V -> Bool
 | .fn .. => true
 | _ => false
def JY (ok : List Nat) : V -> Bool
 | .fn i [] _ => ok.contains i
 | _ => false
def BJ (H : Heap) : Option Nat -> Bool
 | none => true
 | some l => match H[l]? with
   | some (.loop ..) => true
   | _ => false
def au.closed (st : au) : au := match Nat.ble st.low 0 with
 | true => { st with aE := [] }
 | false => { st with aE := [] }
theorem au.fz (st : au) : st.closed = { st with aE := [] } := by
 unfold au.closed
 split <;> rfl
def exec (call : c3) (n : Nat) : cm -> au -> Option (X × au)
 | .skip, st => some (.normal, st)
 | .region ops dK, st => match c9 call ops { st with aE := [] } [] with
   | some (aU, wr) => match dK with
     | none => some (.normal, aU.closed)
     | some b => if p7 b ops wr || n8 call b ops wr { st with aE := [] } then some (.normal, aU.closed) else none
   | none => none
 | .w4 ops ok f, st => match c9 call ops { st with aE := [] } [] with
   | some (aU, _) => if (st.ro.isNone && JY ok (f.ag aU.aE aU.aw)) = true then some (.normal, aU.closed) else none
   | none => none
 | .seq a b, st => match exec call n a st with
   | some (.normal, aU) => exec call n b aU
   | r => r
 | .cond c t e, st => match c.ag st.aE st.aw with
   | .bool true => exec call n t st
   | .bool false => exec call n e st
   | _ => none
 | .block id c, st => match exec call n c st with
   | some (.exit sc, aU) => if sc = id then some (.normal, aU) else some (.exit sc, aU)
   | r => r
 | .loop c, st => iter (exec call n c) n st
 | .rangeFunc f params assign body, st =>
   let l := st.H.length
   if (BJ st.H st.ro && zw (f.ag st.aE st.aw)) = false then none else
   match call (f.ag st.aE st.aw) [.yield l] (st.H ++ [.loop .ready .normal st.aw params assign body]) with
   | some (_, H', low') => match H'[l]? with
     | some (.loop ls sa _ _ _ _) => if ls = .busy then none else some (sa, { st with H := H'.set l .gone, low := min st.low low' })
     | _ => none
   | none => none
 | .exit id, st => some (.exit id, st)
 | .ret, st => some (.ret, st)
 | .fail, _ => none
def lP (aw : Env) (H : Heap) : lN -> Option V
 | .tmp t => some (bJ aw t)
 | .cell a sh => jk H sh (bJ aw a)
def hZ (env : Env) (H : Heap) : List lN -> Option (List V)
 | [] => some []
 | r :: rs => match lP env H r with
   | some v => match hZ env H rs with
     | some vs => some (v :: vs)
     | none => none
   | none => none
def iP : Nat -> List V -> Env
 | _, [] => []
 | i, v :: r => (i, v) :: iP (i + 1) r
def finish (fresh : Bool) (H0 : Heap) (v : V) (H : Heap) (low : Nat) : Option (V × Heap × Nat) :=
 match fresh, v with
 | true, .cQ l es off len tag => match H[l]? with
   | some (.row bC ds false) =>
     if H0.length <= low /\ H0.length <= l /\ bC = es /\ ds.length = tag /\ fc H0.length ds = true then some (.cQ H0.length es off len tag, H0 ++ [.row es ds false], H0.length) else if l < H0.length then some (.cQ l es off len tag, H, low) else none
   | _ => none
 | _, v => match gl H low v with
   | some (v', H', low') => if H0.length <= low' /\ old H0.length v' = true then some (v', H0, H0.length) else some (v', H', low')
   | none => none
inductive ca where
 | code (f : iw)
 | ext (spec : List V -> Option V)
 deriving Inhabited
def jl (ex : cm -> au -> Option (X × au)) (f : iw) (args : List V) (H : Heap) : Option (V × Heap × Nat) :=
 if args.length <= f.vl then
  match ex f.body { aE := [], aw := iP 0 args, H, low := H.length } with
  | some (.normal, st) | some (.ret, st) => match hZ st.aw st.H f.results with
    | some [v] => finish f.fresh H v st.H st.low
    | some vs => finish f.fresh H (.ba vs) st.H st.low
    | none => none
  | _ => none
 else none
def n9 (ex : cm -> au -> Option (X × au)) (l : Nat) (args : List V) (H : Heap) : Option (V × Heap × Nat) :=
 match H[l]? with
 | some (.loop .ready _ env params assign body) =>
   if args.length = params.length then
    match ex assign { aE := [], aw := (params.zip args).foldl (fun e (t, v) => fR e t v) env, H, low := H.length, ro := some l } with
    | some (.normal, st) => match st.H[l]? with
      | some (.loop .ready p PS ps aY db) => match ex body { st with H := st.H.set l (.loop .busy p PS ps aY db), low := min st.low l } with
        | some (x, aU) => match aU.H[l]? with
          | some (.loop _ _ Za PT vq PU) =>
            some (.bool (x = .normal), aU.H.set l (.loop (if x = .normal then .ready else .done) x Za PT vq PU), min aU.low l)
          | _ => none
        | none => none
      | _ => none
    | _ => none
   else none
 | _ => none
def p8 (ad : Nat -> Option ca) (call : c3) (n : Nat) : c3 := fun f args H =>
 match f with
 | .fn i first caps => match ad i with
   | some (.code fn) => jl (exec call n) fn (first ++ args ++ caps) H
   | some (.ext spec) => if ct (first ++ args ++ caps) then (spec (first ++ args ++ caps)).map fun v => (v, H, H.length) else none
   | none => none
 | .yield l => n9 (exec call n) l args H
 | _ => none
def cu (ad : Nat -> Option ca) : Nat -> c3
 | 0 => fun _ _ _ => none
 | n + 1 => p8 ad (cu ad n) n
end Go.Abs
