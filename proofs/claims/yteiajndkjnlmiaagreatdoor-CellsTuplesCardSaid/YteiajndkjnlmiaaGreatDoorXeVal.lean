/- The abstract values, the abstract heap, the simplified code and its executor. Nothing here speaks of the real memory. -/
import Derived.Calls
set_option linter.unusedVariables false
set_option linter.unusedSimpArgs false
namespace Go.Abs

/-- Abstract values. A slice that is never written again is the list of its elements ('list', with the cells of an element); pointers name objects of the abstract heap. -/
inductive V where
  | bool (b : Bool)
  | int (k : IntKind) (n : Int)
  | str (s : List UInt8)
  | nil0
  | emp
  | list (es : Nat) (ds : List V)
  | agg (vs : List V)
  | tup (vs : List V)
  | nilp
  | ptr (l o : Nat)
  | eptr (l es i f tag : Nat)
  | pin (vs : List V) (f : Nat)
  | sref (l es off len tag : Nat)
  | nilm
  | map (l : Nat)
  | nilf
  | fn (i : Nat) (first caps : List V)
  | yield (l : Nat)
  | nili
  | iface (t : Nat) (v : V)
  | undef
  deriving Inhabited

/-- 'tmp': a slot that lives in one region alone; 'var': any other. -/
inductive Opd where
  | tmp (t : Nat)
  | var (t : Nat)
  | const (v : V)
  | func (i : Nat)
  deriving Inhabited

inductive AOp where
  | mv (x : Opd)
  | pick (c a b : Opd)
  | alloc (z : List V)
  | box (x : Opd)
  | build (z : List V) (parts : List (Nat × Nat × Opd))
  | lit (es : Nat) (z : List V) (len : Nat) (parts : List (Nat × Opd)) (im : Bool)
  | load (sh : Option Nat) (x : Opd)
  | store (n : Nat) (a x : Opd)
  | nilCheck (x : Opd)
  | bin (op : BinOp) (x y : Opd)
  | eqAgg (neg : Bool) (ks : List Nat) (x y : Opd)
  | nilEq (kind : Nat) (neg : Bool) (x y : Opd)
  | un (op : UnOp) (x : Opd)
  | conv (k : IntKind) (x : Opd)
  | mkIface (t : Nat) (x : Opd)
  | mkFn (i : Nat) (first caps : List Opd)
  | mkMap
  | mkSlice (es : Nat) (z : List V) (bytes : Nat) (l c : Opd)
  | sliceS (x : Opd) (lo hi : Option Opd)
  | sliceL (es : Nat) (x : Opd) (lo hi mx : Option Opd)
  | fieldAddr (off : Nat) (x : Opd)
  | field (off : Nat) (sh : Option Nat) (x : Opd)
  | indexAddr (es : Nat) (x i : Opd)
  | indexS (x i : Opd)
  | lookup (kind : Nat) (z : V) (x i : Opd) (ok : Bool)
  | mapUpd (kind : Nat) (m k v : Opd)
  | extract (x : Opd) (i : Nat)
  | len (kind : Nat) (x : Opd)
  | append (es bytes : Nat) (a b : Opd)
  | minmax (mx : Bool) (x y : Opd)
  | copy (es : Nat) (a b : Opd)
  | call (raw : Bool) (f : Opd) (args : List Opd)
  | fail
  deriving Inhabited

/-- 'dst': the slot that is written, and whether it outlives the region. -/
structure AOper where
  dst : Option (Nat × Bool)
  op : AOp
  guard : Option (Opd × Bool)
  deriving Inhabited

inductive ACode where
  | skip
  | region (ops : List AOper) (bef : Option (List Nat))
  | seq (a b : ACode)
  | cond (c : Opd) (t e : ACode)
  | block (id : Nat) (body : ACode)
  | loop (body : ACode)
  | rangeFunc (f : Opd) (params : List Nat) (assign body : ACode)
  | exit (id : Nat)
  | ret
  | fail
  deriving Inhabited

inductive ARes where
  | tmp (t : Nat)
  | cell (a : Nat) (sh : Option Nat)
  deriving Inhabited

structure AFunc where
  nslots : Nat
  body : ACode
  results : List ARes
  fresh : Bool
  deriving Inhabited

abbrev Env := List (Nat × V)

/-- How a round or a region is left. -/
inductive X where
  | normal
  | exit (id : Nat)
  | ret
  deriving DecidableEq, Inhabited

inductive AObj where
  | cells (vs : List V)
  | row (es : Nat) (ds : List V) (fz : Bool)
  | map (ents : List (V × V))
  | loop (st : LoopState) (pend : X) (env : Env) (params : List Nat) (assign body : ACode)
  | gone
  deriving Inhabited

abbrev Heap := List AObj

structure St where
  tE : Env
  vE : Env
  H : Heap
  low : Nat
  ro : Option Nat := none
  deriving Inhabited

/-! ### small functions on values -/

def cellsV : V → List V
  | .agg vs => vs
  | v => [v]

mutual
/-- No name of a heap object in it. -/
def isP : V → Bool
  | .bool _ | .int _ _ | .str _ | .nil0 | .emp | .list _ _ | .nilp | .nilm | .nilf | .nili => true
  | .agg vs | .tup vs => isPs vs
  | .iface _ v => isP v
  | _ => false
def isPs : List V → Bool
  | [] => true
  | v :: r => isP v && isPs r
end

mutual
/-- No memory at all in it. -/
def flat : V → Bool
  | .bool _ | .int _ _ | .str _ | .nil0 | .emp | .nilp | .nilm | .nilf | .nili => true
  | .agg vs | .tup vs => flats vs
  | _ => false
def flats : List V → Bool
  | [] => true
  | v :: r => flat v && flats r
end

mutual
/-- All heap objects that it names are older than n. -/
def old (n : Nat) : V → Bool
  | .ptr l _ | .eptr l _ _ _ _ | .sref l _ _ _ _ | .map l | .yield l => decide (l < n)
  | .agg vs | .tup vs => olds n vs
  | .fn _ a b => olds n a && olds n b
  | .iface _ v => old n v
  | .undef => false
  | _ => true
def olds (n : Nat) : List V → Bool
  | [] => true
  | v :: r => old n v && olds n r
end

def isU : V → Bool
  | .undef => true
  | _ => false

def readCells (cs : List V) (o : Nat) : Option Nat → Option V
  | none => cs[o]?
  | some n => if o + n ≤ cs.length then some (.agg ((cs.drop o).take n)) else none

def setCells (cs : List V) (o : Nat) : List V → List V
  | [] => cs
  | x :: xs => setCells (cs.set o x) (o + 1) xs

def lookupE : Env → Nat → V
  | [], _ => .undef
  | (k, v) :: r, t => if k = t then v else lookupE r t

def setE : Env → Nat → V → Env
  | [], t, v => [(t, v)]
  | (k, u) :: r, t, v => if k = t then (k, v) :: r else (k, u) :: setE r t v

def Opd.ev (tE vE : Env) : Opd → V
  | .tmp t => lookupE tE t
  | .var t => lookupE vE t
  | .const v => v
  | .func i => .fn i [] []

/-! ### the heap: reading, writing, freezing -/

def loadA (H : Heap) (sh : Option Nat) : V → Option V
  | .ptr l o => match H[l]? with
    | some (.cells vs) => readCells vs o sh
    | _ => none
  | .eptr l es i f tag => match H[l]? with
    | some (.row es' ds _) => if es' = es ∧ ds.length = tag then (ds[i]?).bind fun d => readCells (cellsV d) f sh else none
    | _ => none
  | .pin vs f => readCells vs f sh
  | _ => none

/-- A row's element with cells written. -/
def putElem (d : V) (f : Nat) (xs : List V) : Option V :=
  match d with
  | .agg vs => if f + xs.length ≤ vs.length then some (.agg (setCells vs f xs)) else none
  | _ => match f, xs with
    | 0, [x] => some x
    | _, _ => none

/-- What can be the content of one cell. -/
def cellOk : V → Bool
  | .agg _ | .tup _ | .undef => false
  | _ => true

def cellsOk : List V → Bool
  | [] => true
  | v :: r => cellOk v && cellsOk r

/-- What may stand in a row. -/
def plainCell : V → Bool
  | .agg _ | .tup _ | .undef | .sref .. | .pin .. | .eptr .. => false
  | _ => true

def plainCells : List V → Bool
  | [] => true
  | v :: r => plainCell v && plainCells r

def storeA (H : Heap) (n : Nat) (a v : V) : Option (Heap × Nat) :=
  match a with
  | .ptr l o => match H[l]? with
    | some (.cells vs) => if (cellsV v).length = n ∧ o + n ≤ vs.length ∧ cellsOk (cellsV v) = true then some (H.set l (.cells (setCells vs o (cellsV v))), l) else none
    | _ => none
  | .eptr l es i f tag => match H[l]? with
    | some (.row es' ds false) =>
      if es' = es ∧ ds.length = tag ∧ (cellsV v).length = n ∧ plainCells (cellsV v) = true then
        match ds[i]? with
        | some d => match putElem d f (cellsV v) with
          | some d' => some (H.set l (.row es (ds.set i d') false), l)
          | none => none
        | none => none
      else none
    | _ => none
  | _ => none

/-- From now on the row is never written: its elements, as a list. -/
def freeze1 (H : Heap) (low : Nat) : V → Option (V × Heap × Nat)
  | .sref l es off len tag => match H[l]? with
    | some (.row es' ds fz) =>
      if es' = es ∧ ds.length = tag ∧ off + len ≤ ds.length ∧ isPs ds = true then
        some (.list es ((ds.drop off).take len), if fz then H else H.set l (.row es ds true), if fz then low else min low l)
      else none
    | _ => none
  | v => some (v, H, low)

def freezeL (H : Heap) (low : Nat) : List V → Option (List V × Heap × Nat)
  | [] => some ([], H, low)
  | v :: r => match freeze1 H low v with
    | some (v', H1, low1) => match freezeL H1 low1 r with
      | some (r', H2, low2) => some (v' :: r', H2, low2)
      | none => none
    | none => none

/-- Freezes a value, an aggregate or a tuple cell by cell. -/
def freezeV (H : Heap) (low : Nat) (v : V) : Option (V × Heap × Nat) :=
  if isP v then some (v, H, low) else
  match v with
  | .agg vs => match freezeL H low vs with
    | some (vs', H', low') => some (.agg vs', H', low')
    | none => none
  | .tup vs => match freezeL H low vs with
    | some (vs', H', low') => some (.tup vs', H', low')
    | none => none
  | v => freeze1 H low v

def freezeVs (H : Heap) (low : Nat) : List V → Option (List V × Heap × Nat)
  | [] => some ([], H, low)
  | v :: r => match freezeV H low v with
    | some (v', H1, low1) => match freezeVs H1 low1 r with
      | some (r', H2, low2) => some (v' :: r', H2, low2)
      | none => none
    | none => none

/-- The elements of a slice. -/
def elems (H : Heap) (es : Nat) : V → Option (List V)
  | .nil0 | .emp => some []
  | .list es' ds => if es' = es then some ds else none
  | .sref l es' off len tag => match H[l]? with
    | some (.row es'' ds _) => if es' = es ∧ es'' = es ∧ ds.length = tag ∧ off + len ≤ ds.length then some ((ds.drop off).take len) else none
    | _ => none
  | _ => none

/-! ### operations -/

def boolOf : V → Option Bool
  | .bool b => some b
  | _ => none
def natOf : V → Option Nat
  | .int _ n => if 0 ≤ n then some n.toNat else none
  | _ => none

def binA (op : BinOp) (x y : V) : Option V :=
  match op, x, y with
  | .shl, .int k a, .int _ b => if 0 ≤ b ∧ b.toNat ≤ k.bits then some (.int k (k.wrap (a * 2 ^ b.toNat))) else none
  | .shr, .int k a, .int _ b => if 0 ≤ b ∧ b.toNat ≤ k.bits then some (.int k (a / 2 ^ b.toNat)) else none
  | op, .int k a, .int k' b =>
    if k ≠ k' then none else
    match op with
    | .add => some (.int k (k.wrap (a + b)))
    | .sub => some (.int k (k.wrap (a - b)))
    | .mul => some (.int k (k.wrap (a * b)))
    | .quo => if b = 0 then none else some (.int k (k.wrap (a.tdiv b)))
    | .rem => if b = 0 then none else some (.int k (a.tmod b))
    | .eql => some (.bool (a == b))
    | .neq => some (.bool (a != b))
    | .lss => some (.bool (decide (a < b)))
    | .leq => some (.bool (decide (a ≤ b)))
    | .gtr => some (.bool (decide (a > b)))
    | .geq => some (.bool (decide (a ≥ b)))
    | .and => some (.int k (k.wrap ((BitVec.ofInt k.bits a &&& BitVec.ofInt k.bits b).toNat)))
    | _ => none
  | .add, .str a, .str b => if a.length + b.length ≤ 2 ^ 40 then some (.str (a ++ b)) else none
  | .eql, .str a, .str b => some (.bool (a == b))
  | .neq, .str a, .str b => some (.bool (a != b))
  | _, _, _ => none

/-- '==' at pointers (0), slices (1), functions (2), interfaces (3) against nil, and at bools (4). -/
def nilEqA (kind : Nat) (x y : V) : Option Bool :=
  match kind, x, y with
  | 0, .nilp, .nilp => some true
  | 0, .ptr _ _, .nilp | 0, .nilp, .ptr _ _ => some false
  | 1, .nil0, .nil0 => some true
  | 1, .emp, .nil0 | 1, .list _ _, .nil0 | 1, .sref _ _ _ _ _, .nil0 => some false
  | 2, .nilf, .nilf => some true
  | 2, .fn _ _ _, .nilf => some false
  | 3, .nili, .nili => some true
  | 3, .iface _ _, .nili => some false
  | 4, .bool a, .bool b => some (a == b)
  | _, _, _ => none

def unA (op : UnOp) (x : V) : Option V :=
  match op, x with
  | .neg, .int k n => some (.int k (k.wrap (0 - n)))
  | .not, .bool b => some (.bool !b)
  | _, _ => none

/-- Two parts of a struct; 0: ints, 1: strings, 2: bools. -/
def eqK : Nat → V → V → Option Bool
  | 0, .int k a, .int k' b => if k = k' then some (a == b) else none
  | 1, .str a, .str b => some (a == b)
  | 2, .bool a, .bool b => some (a == b)
  | _, _, _ => none

def eqCells : List Nat → List V → List V → Option Bool
  | [], [], [] => some true
  | k :: ks, a :: x, b :: y => match eqK k a b with
    | some e => match eqCells ks x y with
      | some e' => some (e && e')
      | none => none
    | none => none
  | _, _, _ => none

def findEnt (kind : Nat) (k : V) : List (V × V) → Option (Option V)
  | [] => some none
  | (k', v) :: r => match eqK kind k k' with
    | some true => some (some v)
    | some false => findEnt kind k r
    | none => none

def setEnt (kind : Nat) (k v : V) : List (V × V) → List (V × V)
  | [] => [(k, v)]
  | (k', u) :: r => if eqK kind k k' = some true then (k, v) :: r else (k', u) :: setEnt kind k v r

def fillA (cs : List V) : List (Nat × Nat × V) → Option (List V)
  | [] => some cs
  | (off, n, v) :: r => if (cellsV v).length = n ∧ off + n ≤ cs.length ∧ cellsOk (cellsV v) = true then fillA (setCells cs off (cellsV v)) r else none

def fillL (es : Nat) (ds : List V) : List (Nat × V) → Option (List V)
  | [] => some ds
  | (i, v) :: r => if (cellsV v).length = es ∧ i < ds.length ∧ cellsOk (cellsV v) = true then fillL es (ds.set i v) r else none

def zeroElem (z : List V) : V := match z with | [x] => x | _ => .agg z

def bnd (ev : Opd → V) (dflt : Nat) : Option Opd → Option Nat
  | none => some dflt
  | some x => natOf (ev x)

/-- An operation that is no call. -/
def step (ev : Opd → V) (H : Heap) (low : Nat) : AOp → Option (V × Heap × Nat)
  | .mv x => some (ev x, H, low)
  | .pick c a b => (boolOf (ev c)).map fun t => (if t then ev a else ev b, H, low)
  | .alloc z => some (.ptr H.length 0, H ++ [.cells z], low)
  | .box x => if cellsOk (cellsV (ev x)) then some (.ptr H.length 0, H ++ [.cells (cellsV (ev x))], low) else none
  | .build z parts => match freezeVs H low (parts.map fun p => ev p.2.2) with
    | some (vs, H', low') => (fillA z ((parts.zip vs).map fun (p, v) => (p.1, p.2.1, v))).map fun cs => (.agg cs, H', low')
    | none => none
  | .lit es z len parts im => match freezeVs H low (parts.map fun p => ev p.2) with
    | some (vs, H', low') => match fillL es (List.replicate len (zeroElem z)) ((parts.zip vs).map fun (p, v) => (p.1, v)) with
      | some ds =>
        if im then (if isPs ds then some (if len = 0 then .emp else .list es ds, H', low') else none)
        else if len = 0 then some (.emp, H', low') else some (.sref H'.length es 0 len len, H' ++ [.row es ds false], low')
      | none => none
    | none => none
  | .load sh x => (loadA H sh (ev x)).map fun v => (v, H, low)
  | .store n a x => (storeA H n (ev a) (ev x)).map fun (H', l) => (.undef, H', min low l)
  | .nilCheck x => match ev x with
    | .ptr l o => some (.ptr l o, H, low)
    | .eptr l es i f tag => some (.eptr l es i f tag, H, low)
    | .pin vs f => some (.pin vs f, H, low)
    | .fn i a b => some (.fn i a b, H, low)
    | _ => none
  | .bin op x y => (binA op (ev x) (ev y)).map fun v => (v, H, low)
  | .eqAgg neg ks x y => match ev x, ev y with
    | .agg a, .agg b => (eqCells ks a b).map fun e => (.bool (if neg then !e else e), H, low)
    | _, _ => none
  | .nilEq kind neg x y => (nilEqA kind (ev x) (ev y)).map fun e => (.bool (if neg then !e else e), H, low)
  | .un op x => (unA op (ev x)).map fun v => (v, H, low)
  | .conv k x => match ev x with
    | .int _ n => some (.int k (k.wrap n), H, low)
    | _ => none
  | .mkIface t x => match freezeV H low (ev x) with
    | some (v, H', low') => some (.iface t v, H', low')
    | none => none
  | .mkFn i a b => some (.fn i (a.map ev) (b.map ev), H, low)
  | .mkMap => some (.map H.length, H ++ [.map []], low)
  | .mkSlice es z bytes l c => match ev l, ev c with
    | .int _ n, .int _ m => if n = m ∧ 0 ≤ n ∧ n * (bytes + 1) ≤ 2 ^ 40 then
        (if n = 0 then some (.emp, H, low) else
          some (.sref H.length es 0 n.toNat n.toNat, H ++ [.row es (List.replicate n.toNat (zeroElem z)) false], low)) else none
    | _, _ => none
  | .sliceS x lo hi => match ev x with
    | .str s => match bnd ev 0 lo, bnd ev s.length hi with
      | some a, some b => if a ≤ b ∧ b ≤ s.length then some (.str ((s.take b).drop a), H, low) else none
      | _, _ => none
    | _ => none
  | .sliceL es x lo hi mx => match ev x with
    | .nil0 => match bnd ev 0 lo, bnd ev 0 hi, bnd ev 0 mx with
      | some 0, some 0, some 0 => some (.nil0, H, low)
      | _, _, _ => none
    | .emp => match bnd ev 0 lo, bnd ev 0 hi, bnd ev 0 mx with
      | some 0, some 0, some 0 => some (.emp, H, low)
      | _, _, _ => none
    | .list es' ds => match bnd ev 0 lo, bnd ev ds.length hi with
      | some a, some b => if a ≤ b ∧ b ≤ ds.length ∧ es' = es then
          match mx with
          | none => some (.list es ((ds.take b).drop a), H, low)
          | some m => if natOf (ev m) = some 0 ∧ b = 0 then some (.emp, H, low) else none
        else none
      | _, _ => none
    | .sref l es' off len tag => match bnd ev 0 lo, bnd ev len hi with
      | some a, some b => if a ≤ b ∧ b ≤ len ∧ es' = es then
          match mx with
          | none => match H[l]? with
            | some (.row es'' ds _) => if ds.length = tag ∧ es'' = es ∧ a < b then some (.sref l es (off + a) (b - a) tag, H, low) else none
            | _ => none
          | some m => if natOf (ev m) = some 0 ∧ b = 0 then some (.emp, H, low) else none
        else none
      | _, _ => none
    | _ => none
  | .fieldAddr off x => match ev x with
    | .ptr l o => some (.ptr l (o + off), H, low)
    | .eptr l es i f tag => some (.eptr l es i (f + off) tag, H, low)
    | .pin vs f => some (.pin vs (f + off), H, low)
    | _ => none
  | .field off sh x => match ev x with
    | .agg vs => (readCells vs off sh).map fun v => (v, H, low)
    | _ => none
  | .indexAddr es x i => match natOf (ev i) with
    | some i => match ev x with
      | .list es' ds => if es' = es then (ds[i]?).map fun d => (.pin (cellsV d) 0, H, low) else none
      | .sref l es' off len tag => match H[l]? with
        | some (.row es'' ds _) => if es' = es ∧ es'' = es ∧ ds.length = tag ∧ i < len ∧ off + len ≤ ds.length then some (.eptr l es (off + i) 0 tag, H, low) else none
        | _ => none
      | _ => none
    | none => none
  | .indexS x i => match ev x, natOf (ev i) with
    | .str s, some i => (s[i]?).map fun c => (.int .u8 c.toNat, H, low)
    | _, _ => none
  | .lookup kind z x i ok => match ev x with
    | .nilm => some (if ok then .tup [z, .bool false] else z, H, low)
    | .map l => match H[l]? with
      | some (.map ents) => match findEnt kind (ev i) ents with
        | some (some v) => some (if ok then .tup [v, .bool true] else v, H, low)
        | some none => some (if ok then .tup [z, .bool false] else z, H, low)
        | none => none
      | _ => none
    | _ => none
  | .mapUpd kind m k v => match freezeV H low (ev v) with
    | some (v', H', low') => if isU v' then none else match ev m with
      | .map l => match H'[l]? with
        | some (.map ents) => match findEnt kind (ev k) ents with
          | some _ => some (.undef, H'.set l (.map (setEnt kind (ev k) v' ents)), min low' l)
          | none => none
        | _ => none
      | _ => none
    | none => none
  | .extract x i => match ev x with
    | .tup vs => (vs[i]?).map fun v => (v, H, low)
    | _ => none
  | .len kind x => match kind, ev x with
    | 0, .str s => some (.int .i64 s.length, H, low)
    | 1, .nil0 | 1, .emp => some (.int .i64 0, H, low)
    | 1, .list _ ds => some (.int .i64 ds.length, H, low)
    | 1, .sref l es _ len tag => match H[l]? with
      | some (.row es' ds _) => if es' = es ∧ ds.length = tag then some (.int .i64 len, H, low) else none
      | _ => none
    | 2, .nilm => some (.int .i64 0, H, low)
    | 2, .map l => match H[l]? with
      | some (.map ents) => some (.int .i64 ents.length, H, low)
      | _ => none
    | _, _ => none
  | .append es bytes a b => match elems H es (ev b) with
    | some xs => match freezeVs H low xs with
      | some (xs, H', low') =>
        if xs.isEmpty then
          match ev a with
          | .nil0 => some (.nil0, H', low')
          | .emp => some (.emp, H', low')
          | .list es' ds => some (.list es' ds, H', low')
          | .sref l es' off len tag => match H'[l]? with
            | some (.row _ ds _) => if ds.length = tag then some (.sref l es' off len tag, H', low') else none
            | _ => none
          | _ => none
        else if cellsOk (xs.flatMap cellsV) = false then none else
        match ev a with
        | .nil0 => if xs.length * (bytes + 1) ≤ 2 ^ 40 then
            some (.sref H'.length es 0 xs.length xs.length, H' ++ [.row es xs false], low') else none
        | .emp => if xs.length * (bytes + 1) ≤ 2 ^ 40 then
            some (.sref H'.length es 0 xs.length xs.length, H' ++ [.row es xs false], low') else none
        | .sref l es' off len tag => match H'[l]? with
          | some (.row es'' ds false) =>
            if es' = es ∧ es'' = es ∧ ds.length = tag ∧ off = 0 ∧ len = tag ∧ (len + xs.length) * (bytes + 1) ≤ 2 ^ 40 then
              some (.sref l es 0 (len + xs.length) (len + xs.length), H'.set l (.row es (ds ++ xs) false), min low' l)
            else none
          | _ => none
        | _ => none
      | none => none
    | none => none
  | .minmax mx x y => match ev x, ev y with
    | .int k a, .int k' b => if k = k' then some (.int k (if mx then max a b else min a b), H, low) else none
    | _, _ => none
  | .copy es a b => match ev a, elems H es (ev b) with
    | .nil0, some _ | .emp, some _ => some (.int .i64 0, H, low)
    | .sref l es' off len tag, some xs => match H[l]? with
      | some (.row es'' ds false) =>
        if es' = es ∧ es'' = es ∧ ds.length = tag ∧ off + len ≤ ds.length ∧ plainCells (xs.flatMap cellsV) = true then
          some (.int .i64 ((min len xs.length : Nat) : Int), H.set l (.row es (ds.take off ++ xs.take len ++ ds.drop (off + min len xs.length)) false), min low l)
        else none
      | _ => none
    | _, _ => none
  | .call _ _ _ => none
  | .fail => none

/-! ### code -/

/-- What a call does: the value, the heap, the oldest object that was written. -/
abbrev CallT := V → List V → Heap → Option (V × Heap × Nat)

/-- What was skipped has the empty tuple. -/
def wantedA (tE vE : Env) : Option (Opd × Bool) → Option Bool
  | none => some true
  | some (t, b) => match t.ev tE vE with
    | .bool c => some (c == b)
    | .tup [] => some false
    | _ => none

def St.put (st : St) : Option (Nat × Bool) → V → St
  | none, _ => st
  | some (t, true), v => { st with vE := setE st.vE t v }
  | some (t, false), v => { st with tE := (t, v) :: st.tE }

def stepC (call : CallT) (ev : Opd → V) (H : Heap) (low : Nat) : AOp → Option (V × Heap × Nat)
  | .call true f args => match call (ev f) (args.map ev) H with
    | some (v, H', l) => some (v, H', min low l)
    | none => none
  | .call false f args => match freezeVs H low (args.map ev) with
    | some (vs, H', low') => match call (ev f) vs H' with
      | some (v, H'', l) => if flat v = true ∧ H'.length ≤ l then some (v, H, low) else some (v, H'', min low' l)
      | none => none
    | none => none
  | op => step ev H low op

/-- Whether an operation has written an object, or made one. -/
def movedH (H H' : Heap) (low : Nat) : Bool := decide (low < H.length) || H'.length != H.length

/-- The operations of a region, in the order of their numbers; 'wr' collects which of them changed the heap. -/
def execOps (call : CallT) : List AOper → St → List Bool → Option (St × List Bool)
  | [], st, wr => some (st, wr.reverse)
  | o :: r, st, wr =>
    match wantedA st.tE st.vE o.guard with
    | some true => match stepC call (Opd.ev st.tE st.vE) st.H st.H.length o.op with
      | some (v, H', low') => execOps call r ({ st with H := H', low := min st.low low' }.put o.dst v) (movedH st.H H' low' :: wr)
      | none => none
    | some false => execOps call r (st.put o.dst (.tup [])) (false :: wr)
    | none => none

/-- Operations that look at the heap, or make objects. -/
def touches : AOp → Bool
  | .mv _ | .pick .. | .bin .. | .eqAgg .. | .nilEq .. | .un .. | .conv .. | .sliceS .. | .fieldAddr .. | .field .. | .indexS .. | .extract .. | .minmax .. => false
  | _ => true

/-- What an operation looks at. -/
def AOp.operands : AOp → List Opd
  | .mv x | .box x | .load _ x | .nilCheck x | .un _ x | .conv _ x | .mkIface _ x | .fieldAddr _ x | .field _ _ x | .extract x _ | .len _ x => [x]
  | .pick a b c => [a, b, c]
  | .alloc _ | .mkMap | .fail => []
  | .build _ parts => parts.map (·.2.2)
  | .lit _ _ _ parts _ => parts.map (·.2)
  | .store _ a x | .bin _ a x | .eqAgg _ _ a x | .nilEq _ _ a x | .mkSlice _ _ _ a x | .indexAddr _ a x | .indexS a x | .lookup _ _ a x _ | .append _ _ a x | .minmax _ a x | .copy _ a x => [a, x]
  | .mkFn _ a b => a ++ b
  | .sliceS x lo hi => x :: (lo.toList ++ hi.toList)
  | .sliceL _ x lo hi mx => x :: (lo.toList ++ hi.toList ++ mx.toList)
  | .mapUpd _ m k v => [m, k, v]
  | .call _ f args => f :: args

/-- Whoever changed the heap stands in order with whoever looks. 'bef': of each operation the bits of those that come before it. -/
def inOrder (bef : List Nat) (ops : List AOper) (wr : List Bool) : Bool :=
  if wr.any id then
    (wr.zipIdx).all fun (w, i) => !w || (ops.zipIdx).all fun (o, j) =>
      !touches o.op || i == j || (if j < i then (bef.getD i 0).testBit j else (bef.getD j 0).testBit i)
  else true

def iter (f : St → Option (X × St)) : Nat → St → Option (X × St)
  | 0, _ => none
  | n + 1, st => match f st with
    | some (.normal, st') => iter f n st'
    | r => r

def isFn : V → Bool
  | .fn .. => true
  | _ => false

/-- A round's own record is there. -/
def roOk (H : Heap) : Option Nat → Bool
  | none => true
  | some l => match H[l]? with
    | some (.loop ..) => true
    | _ => false

/-- The whole code of a body, calls by 'call', loops of at most n rounds. -/
def exec (call : CallT) (n : Nat) : ACode → St → Option (X × St)
  | .skip, st => some (.normal, st)
  | .region ops bef, st => match execOps call ops { st with tE := [] } [] with
    | some (st', wr) => match bef with
      | none => some (.normal, { st' with tE := [] })
      | some b => if inOrder b ops wr then some (.normal, { st' with tE := [] }) else none
    | none => none
  | .seq a b, st => match exec call n a st with
    | some (.normal, st') => exec call n b st'
    | r => r
  | .cond c t e, st => match c.ev st.tE st.vE with
    | .bool true => exec call n t st
    | .bool false => exec call n e st
    | _ => none
  | .block id c, st => match exec call n c st with
    | some (.exit id', st') => if id' = id then some (.normal, st') else some (.exit id', st')
    | r => r
  | .loop c, st => iter (exec call n c) n st
  | .rangeFunc f params assign body, st =>
    let l := st.H.length
    if (roOk st.H st.ro && isFn (f.ev st.tE st.vE)) = false then none else
    match call (f.ev st.tE st.vE) [.yield l] (st.H ++ [.loop .ready .normal st.vE params assign body]) with
    | some (_, H', low') => match H'[l]? with
      | some (.loop ls pend _ _ _ _) => if ls = .busy then none else some (pend, { st with H := H'.set l .gone, low := min st.low low' })
      | _ => none
    | none => none
  | .exit id, st => some (.exit id, st)
  | .ret, st => some (.ret, st)
  | .fail, _ => none

def resultA (vE : Env) (H : Heap) : ARes → Option V
  | .tmp t => some (lookupE vE t)
  | .cell a sh => loadA H sh (lookupE vE a)

def resultsA (env : Env) (H : Heap) : List ARes → Option (List V)
  | [] => some []
  | r :: rs => match resultA env H r with
    | some v => match resultsA env H rs with
      | some vs => some (v :: vs)
      | none => none
    | none => none

def zipE : Nat → List V → Env
  | _, [] => []
  | i, v :: r => (i, v) :: zipE (i + 1) r

/-- What a call leaves: nothing old was written and nothing new is handed back: the heap is the caller's. A row of its own that it hands back becomes the caller's next object. -/
def finish (fresh : Bool) (H0 : Heap) (v : V) (H : Heap) (low : Nat) : Option (V × Heap × Nat) :=
  match fresh, v with
  | true, .sref l es off len tag => match H[l]? with
    | some (.row es' ds false) =>
      if H0.length ≤ low ∧ H0.length ≤ l ∧ es' = es ∧ ds.length = tag ∧ olds H0.length ds = true then some (.sref H0.length es off len tag, H0 ++ [.row es ds false], H0.length) else none
    | _ => none
  | _, v => match freezeV H low v with
    | some (v', H', low') => if H0.length ≤ low' ∧ old H0.length v' = true then some (v', H0, H0.length) else some (v', H', low')
    | none => none

inductive Fun where
  | code (f : AFunc)
  | ext (spec : List V → Option V)
  deriving Inhabited

def callBody (ex : ACode → St → Option (X × St)) (f : AFunc) (args : List V) (H : Heap) : Option (V × Heap × Nat) :=
  if args.length ≤ f.nslots then
    match ex f.body { tE := [], vE := zipE 0 args, H, low := H.length } with
    | some (.normal, st) | some (.ret, st) => match resultsA st.vE st.H f.results with
      | some [v] => finish f.fresh H v st.H st.low
      | some vs => finish f.fresh H (.tup vs) st.H st.low
      | none => none
    | _ => none
  else none

def yieldBody (ex : ACode → St → Option (X × St)) (l : Nat) (args : List V) (H : Heap) : Option (V × Heap × Nat) :=
  match H[l]? with
  | some (.loop .ready _ env params assign body) =>
    if args.length = params.length then
      match ex assign { tE := [], vE := (params.zip args).foldl (fun e (t, v) => setE e t v) env, H, low := H.length, ro := some l } with
      | some (.normal, st) => match st.H[l]? with
        | some (.loop .ready p env' ps as bd) => match ex body { st with H := st.H.set l (.loop .busy p env' ps as bd), low := min st.low l } with
          | some (x, st') => match st'.H[l]? with
            | some (.loop _ _ env'' ps' as' bd') =>
              some (.bool (x = .normal), st'.H.set l (.loop (if x = .normal then .ready else .done) x env'' ps' as' bd'), min st'.low l)
            | _ => none
          | none => none
        | _ => none
      | _ => none
    else none
  | _ => none

def callV (tab : Nat → Option Fun) (call : CallT) (n : Nat) : CallT := fun f args H =>
  match f with
  | .fn i first caps => match tab i with
    | some (.code fn) => callBody (exec call n) fn (first ++ args ++ caps) H
    | some (.ext spec) => if isPs (first ++ args ++ caps) then (spec (first ++ args ++ caps)).map fun v => (v, H, H.length) else none
    | none => none
  | .yield l => yieldBody (exec call n) l args H
  | _ => none

def callN (tab : Nat → Option Fun) : Nat → CallT
  | 0 => fun _ _ _ => none
  | n + 1 => callV tab (callN tab n) n

end Go.Abs
