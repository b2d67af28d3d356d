/- The abstract values, the abstract heap, the simplified code and its executor. Nothing here speaks of the real memory. -/
import Derived.Calls
import Derived.CheckFast
import Derived.Laws.World
import Derived.Laws.Cells
import Derived.Laws.CopyRow
import Derived.ChangeKeysEq
set_option linter.unusedVariables false
set_option linter.unusedSimpArgs false
namespace Go.Abs

/-- Abstract values. A slice that is never written again is the list of its elements ('list', with the cells of an element); pointers name objects of the abstract heap. -/
inductive V where
  | bool (b : Bool)
  | int (k : IntKind) (n : Int)
  | str (s : List UInt8)
  | nil0
  | emp
  | list (es : Nat) (ds : List V)
  | agg (vs : List V)
  | tup (vs : List V)
  | nilp
  | ptr (l o : Nat)
  | eptr (l es i f tag : Nat)
  | pin (vs : List V) (f : Nat)
  | sref (l es off len tag : Nat)
  | nilm
  | map (l : Nat)
  | nilf
  | fn (i : Nat) (first caps : List V)
  | yield (l : Nat)
  | nili
  | iface (t : Nat) (v : V)
  | undef
  deriving Inhabited

/-- 'tmp': a slot that lives in one region alone; 'var': any other. -/
inductive Opd where
  | tmp (t : Nat)
  | var (t : Nat)
  | const (v : V)
  | func (i : Nat)
  deriving Inhabited

inductive AOp where
  | mv (x : Opd)
  | pick (c a b : Opd)
  | alloc (z : List V)
  | box (x : Opd)
  | build (z : List V) (parts : List (Nat × Nat × Opd))
  | lit (es : Nat) (z : List V) (len : Nat) (parts : List (Nat × Opd)) (im : Bool)
  | load (sh : Option Nat) (x : Opd)
  | store (n : Nat) (a x : Opd)
  | nilCheck (x : Opd)
  | bin (op : BinOp) (x y : Opd)
  | eqAgg (neg : Bool) (ks : List Nat) (x y : Opd)
  | nilEq (kind : Nat) (neg : Bool) (x y : Opd)
  | un (op : UnOp) (x : Opd)
  | conv (k : IntKind) (x : Opd)
  | mkIface (t : Nat) (x : Opd)
  | mkFn (i : Nat) (first caps : List Opd)
  | mkMap
  | mkSlice (es : Nat) (z : List V) (bytes : Nat) (l c : Opd)
  | sliceS (x : Opd) (lo hi : Option Opd)
  | sliceL (es : Nat) (x : Opd) (lo hi mx : Option Opd)
  | fieldAddr (off : Nat) (x : Opd)
  | field (off : Nat) (sh : Option Nat) (x : Opd)
  | indexAddr (es : Nat) (x i : Opd)
  | indexS (x i : Opd)
  | lookup (kind : Nat) (z : V) (x i : Opd) (ok : Bool)
  | mapUpd (kind : Nat) (m k v : Opd)
  | extract (x : Opd) (i : Nat)
  | len (kind : Nat) (x : Opd)
  | append (es bytes : Nat) (a b : Opd)
  | minmax (mx : Bool) (x y : Opd)
  | copy (es : Nat) (a b : Opd)
  | call (raw : Bool) (f : Opd) (args : List Opd)
  | fail
  deriving Inhabited

/-- 'dst': the slot that is written, and whether it outlives the region. -/
structure AOper where
  dst : Option (Nat × Bool)
  op : AOp
  guard : Option (Opd × Bool)
  deriving Inhabited

inductive ACode where
  | skip
  | region (ops : List AOper) (bef : Option (List Nat))
  | seq (a b : ACode)
  | cond (c : Opd) (t e : ACode)
  | block (id : Nat) (body : ACode)
  | loop (body : ACode)
  | rangeFunc (f : Opd) (params : List Nat) (assign body : ACode)
  | exit (id : Nat)
  | ret
  | fail
  deriving Inhabited

inductive ARes where
  | tmp (t : Nat)
  | cell (a : Nat) (sh : Option Nat)
  deriving Inhabited

structure AFunc where
  nslots : Nat
  body : ACode
  results : List ARes
  fresh : Bool
  deriving Inhabited

abbrev Env := List (Nat × V)

/-- How a round or a region is left. -/
inductive X where
  | normal
  | exit (id : Nat)
  | ret
  deriving DecidableEq, Inhabited

inductive AObj where
  | cells (vs : List V)
  | row (es : Nat) (ds : List V) (fz : Bool)
  | map (ents : List (V × V))
  | loop (st : LoopState) (pend : X) (env : Env) (params : List Nat) (assign body : ACode)
  | gone
  deriving Inhabited

abbrev Heap := List AObj

structure St where
  tE : Env
  vE : Env
  H : Heap
  low : Nat
  ro : Option Nat := none
  deriving Inhabited

/-! ### small functions on values -/

def cellsV : V → List V
  | .agg vs => vs
  | v => [v]

mutual
/-- No name of a heap object in it. -/
def isP : V → Bool
  | .bool _ | .int _ _ | .str _ | .nil0 | .emp | .list _ _ | .nilp | .nilm | .nilf | .nili => true
  | .agg vs | .tup vs => isPs vs
  | .iface _ v => isP v
  | _ => false
def isPs : List V → Bool
  | [] => true
  | v :: r => isP v && isPs r
end

mutual
/-- No memory at all in it. -/
def flat : V → Bool
  | .bool _ | .int _ _ | .str _ | .nil0 | .emp | .nilp | .nilm | .nilf | .nili => true
  | .agg vs | .tup vs => flats vs
  | _ => false
def flats : List V → Bool
  | [] => true
  | v :: r => flat v && flats r
end

mutual
/-- All heap objects that it names are older than n. -/
def old (n : Nat) : V → Bool
  | .ptr l _ | .eptr l _ _ _ _ | .sref l _ _ _ _ | .map l | .yield l => decide (l < n)
  | .agg vs | .tup vs => olds n vs
  | .fn _ a b => olds n a && olds n b
  | .iface _ v => old n v
  | .undef => false
  | _ => true
def olds (n : Nat) : List V → Bool
  | [] => true
  | v :: r => old n v && olds n r
end

def isU : V → Bool
  | .undef => true
  | _ => false

def readCells (cs : List V) (o : Nat) : Option Nat → Option V
  | none => cs[o]?
  | some n => if o + n ≤ cs.length then some (.agg ((cs.drop o).take n)) else none

def setCells (cs : List V) (o : Nat) : List V → List V
  | [] => cs
  | x :: xs => setCells (cs.set o x) (o + 1) xs

def lookupE : Env → Nat → V
  | [], _ => .undef
  | (k, v) :: r, t => if k = t then v else lookupE r t

def setE : Env → Nat → V → Env
  | [], t, v => [(t, v)]
  | (k, u) :: r, t, v => if k = t then (k, v) :: r else (k, u) :: setE r t v

def Opd.ev (tE vE : Env) : Opd → V
  | .tmp t => lookupE tE t
  | .var t => lookupE vE t
  | .const v => v
  | .func i => .fn i [] []

/-! ### the heap: reading, writing, freezing -/

def loadA (H : Heap) (sh : Option Nat) : V → Option V
  | .ptr l o => match H[l]? with
    | some (.cells vs) => readCells vs o sh
    | _ => none
  | .eptr l es i f tag => match H[l]? with
    | some (.row es' ds _) => if es' = es ∧ ds.length = tag then (ds[i]?).bind fun d => readCells (cellsV d) f sh else none
    | _ => none
  | .pin vs f => readCells vs f sh
  | _ => none

/-- A row's element with cells written. -/
def putElem (d : V) (f : Nat) (xs : List V) : Option V :=
  match d with
  | .agg vs => if f + xs.length ≤ vs.length then some (.agg (setCells vs f xs)) else none
  | _ => match f, xs with
    | 0, [x] => some x
    | _, _ => none

/-- What can be the content of one cell. -/
def cellOk : V → Bool
  | .agg _ | .tup _ | .undef => false
  | _ => true

def cellsOk : List V → Bool
  | [] => true
  | v :: r => cellOk v && cellsOk r

/-- What may stand in a row. -/
def plainCell : V → Bool
  | .agg _ | .tup _ | .undef | .sref .. | .pin .. | .eptr .. => false
  | _ => true

def plainCells : List V → Bool
  | [] => true
  | v :: r => plainCell v && plainCells r

def storeA (H : Heap) (n : Nat) (a v : V) : Option (Heap × Nat) :=
  match a with
  | .ptr l o => match H[l]? with
    | some (.cells vs) => if (cellsV v).length = n ∧ o + n ≤ vs.length ∧ cellsOk (cellsV v) = true then some (H.set l (.cells (setCells vs o (cellsV v))), l) else none
    | _ => none
  | .eptr l es i f tag => match H[l]? with
    | some (.row es' ds false) =>
      if es' = es ∧ ds.length = tag ∧ (cellsV v).length = n ∧ plainCells (cellsV v) = true then
        match ds[i]? with
        | some d => match putElem d f (cellsV v) with
          | some d' => some (H.set l (.row es (ds.set i d') false), l)
          | none => none
        | none => none
      else none
    | _ => none
  | _ => none

/-- From now on the row is never written: its elements, as a list. -/
def freeze1 (H : Heap) (low : Nat) : V → Option (V × Heap × Nat)
  | .sref l es off len tag => match H[l]? with
    | some (.row es' ds fz) =>
      if es' = es ∧ ds.length = tag ∧ off + len ≤ ds.length ∧ isPs ds = true then
        some (.list es ((ds.drop off).take len), if fz then H else H.set l (.row es ds true), if fz then low else min low l)
      else none
    | _ => none
  | v => some (v, H, low)

def freezeL (H : Heap) (low : Nat) : List V → Option (List V × Heap × Nat)
  | [] => some ([], H, low)
  | v :: r => match freeze1 H low v with
    | some (v', H1, low1) => match freezeL H1 low1 r with
      | some (r', H2, low2) => some (v' :: r', H2, low2)
      | none => none
    | none => none

/-- Freezes a value, an aggregate or a tuple cell by cell. -/
def freezeV (H : Heap) (low : Nat) (v : V) : Option (V × Heap × Nat) :=
  if isP v then some (v, H, low) else
  match v with
  | .agg vs => match freezeL H low vs with
    | some (vs', H', low') => some (.agg vs', H', low')
    | none => none
  | .tup vs => match freezeL H low vs with
    | some (vs', H', low') => some (.tup vs', H', low')
    | none => none
  | v => freeze1 H low v

def freezeVs (H : Heap) (low : Nat) : List V → Option (List V × Heap × Nat)
  | [] => some ([], H, low)
  | v :: r => match freezeV H low v with
    | some (v', H1, low1) => match freezeVs H1 low1 r with
      | some (r', H2, low2) => some (v' :: r', H2, low2)
      | none => none
    | none => none

/-- The elements of a slice. -/
def elems (H : Heap) (es : Nat) : V → Option (List V)
  | .nil0 | .emp => some []
  | .list es' ds => if es' = es then some ds else none
  | .sref l es' off len tag => match H[l]? with
    | some (.row es'' ds _) => if es' = es ∧ es'' = es ∧ ds.length = tag ∧ off + len ≤ ds.length then some ((ds.drop off).take len) else none
    | _ => none
  | _ => none

/-! ### operations -/

def boolOf : V → Option Bool
  | .bool b => some b
  | _ => none
def natOf : V → Option Nat
  | .int _ n => if 0 ≤ n then some n.toNat else none
  | _ => none

def binA (op : BinOp) (x y : V) : Option V :=
  match op, x, y with
  | .shl, .int k a, .int _ b => if 0 ≤ b ∧ b.toNat ≤ k.bits then some (.int k (k.wrap (a * 2 ^ b.toNat))) else none
  | .shr, .int k a, .int _ b => if 0 ≤ b ∧ b.toNat ≤ k.bits then some (.int k (a / 2 ^ b.toNat)) else none
  | op, .int k a, .int k' b =>
    if k ≠ k' then none else
    match op with
    | .add => some (.int k (k.wrap (a + b)))
    | .sub => some (.int k (k.wrap (a - b)))
    | .mul => some (.int k (k.wrap (a * b)))
    | .quo => if b = 0 then none else some (.int k (k.wrap (a.tdiv b)))
    | .rem => if b = 0 then none else some (.int k (a.tmod b))
    | .eql => some (.bool (a == b))
    | .neq => some (.bool (a != b))
    | .lss => some (.bool (decide (a < b)))
    | .leq => some (.bool (decide (a ≤ b)))
    | .gtr => some (.bool (decide (a > b)))
    | .geq => some (.bool (decide (a ≥ b)))
    | .and => some (.int k (k.wrap ((BitVec.ofInt k.bits a &&& BitVec.ofInt k.bits b).toNat)))
    | _ => none
  | .add, .str a, .str b => if a.length + b.length ≤ 2 ^ 40 then some (.str (a ++ b)) else none
  | .eql, .str a, .str b => some (.bool (a == b))
  | .neq, .str a, .str b => some (.bool (a != b))
  | _, _, _ => none

/-- '==' at pointers (0), slices (1), functions (2), interfaces (3) against nil, and at bools (4). -/
def nilEqA (kind : Nat) (x y : V) : Option Bool :=
  match kind, x, y with
  | 0, .nilp, .nilp => some true
  | 0, .ptr _ _, .nilp | 0, .nilp, .ptr _ _ => some false
  | 1, .nil0, .nil0 => some true
  | 1, .emp, .nil0 | 1, .list _ _, .nil0 | 1, .sref _ _ _ _ _, .nil0 => some false
  | 2, .nilf, .nilf => some true
  | 2, .fn _ _ _, .nilf => some false
  | 3, .nili, .nili => some true
  | 3, .iface _ _, .nili => some false
  | 4, .bool a, .bool b => some (a == b)
  | _, _, _ => none

def unA (op : UnOp) (x : V) : Option V :=
  match op, x with
  | .neg, .int k n => some (.int k (k.wrap (0 - n)))
  | .not, .bool b => some (.bool !b)
  | _, _ => none

/-- Two parts of a struct; 0: ints, 1: strings, 2: bools. -/
def eqK : Nat → V → V → Option Bool
  | 0, .int k a, .int k' b => if k = k' then some (a == b) else none
  | 1, .str a, .str b => some (a == b)
  | 2, .bool a, .bool b => some (a == b)
  | _, _, _ => none

def eqCells : List Nat → List V → List V → Option Bool
  | [], [], [] => some true
  | k :: ks, a :: x, b :: y => match eqK k a b with
    | some e => match eqCells ks x y with
      | some e' => some (e && e')
      | none => none
    | none => none
  | _, _, _ => none

def findEnt (kind : Nat) (k : V) : List (V × V) → Option (Option V)
  | [] => some none
  | (k', v) :: r => match eqK kind k k' with
    | some true => some (some v)
    | some false => findEnt kind k r
    | none => none

def setEnt (kind : Nat) (k v : V) : List (V × V) → List (V × V)
  | [] => [(k, v)]
  | (k', u) :: r => if eqK kind k k' = some true then (k, v) :: r else (k', u) :: setEnt kind k v r

def fillA (cs : List V) : List (Nat × Nat × V) → Option (List V)
  | [] => some cs
  | (off, n, v) :: r => if (cellsV v).length = n ∧ off + n ≤ cs.length ∧ cellsOk (cellsV v) = true then fillA (setCells cs off (cellsV v)) r else none

def fillL (es : Nat) (ds : List V) : List (Nat × V) → Option (List V)
  | [] => some ds
  | (i, v) :: r => if (cellsV v).length = es ∧ i < ds.length ∧ cellsOk (cellsV v) = true then fillL es (ds.set i v) r else none

def zeroElem (z : List V) : V := match z with | [x] => x | _ => .agg z

def bnd (ev : Opd → V) (dflt : Nat) : Option Opd → Option Nat
  | none => some dflt
  | some x => natOf (ev x)

/-- An operation that is no call. -/
def step (ev : Opd → V) (H : Heap) (low : Nat) : AOp → Option (V × Heap × Nat)
  | .mv x => some (ev x, H, low)
  | .pick c a b => (boolOf (ev c)).map fun t => (if t then ev a else ev b, H, low)
  | .alloc z => some (.ptr H.length 0, H ++ [.cells z], low)
  | .box x => if cellsOk (cellsV (ev x)) then some (.ptr H.length 0, H ++ [.cells (cellsV (ev x))], low) else none
  | .build z parts => match freezeVs H low (parts.map fun p => ev p.2.2) with
    | some (vs, H', low') => (fillA z ((parts.zip vs).map fun (p, v) => (p.1, p.2.1, v))).map fun cs => (.agg cs, H', low')
    | none => none
  | .lit es z len parts im => match freezeVs H low (parts.map fun p => ev p.2) with
    | some (vs, H', low') => match fillL es (List.replicate len (zeroElem z)) ((parts.zip vs).map fun (p, v) => (p.1, v)) with
      | some ds =>
        if im then (if isPs ds then some (if len = 0 then .emp else .list es ds, H', low') else none)
        else if len = 0 then some (.emp, H', low') else some (.sref H'.length es 0 len len, H' ++ [.row es ds false], low')
      | none => none
    | none => none
  | .load sh x => (loadA H sh (ev x)).map fun v => (v, H, low)
  | .store n a x => (storeA H n (ev a) (ev x)).map fun (H', l) => (.undef, H', min low l)
  | .nilCheck x => match ev x with
    | .ptr l o => some (.ptr l o, H, low)
    | .eptr l es i f tag => some (.eptr l es i f tag, H, low)
    | .pin vs f => some (.pin vs f, H, low)
    | .fn i a b => some (.fn i a b, H, low)
    | _ => none
  | .bin op x y => (binA op (ev x) (ev y)).map fun v => (v, H, low)
  | .eqAgg neg ks x y => match ev x, ev y with
    | .agg a, .agg b => (eqCells ks a b).map fun e => (.bool (if neg then !e else e), H, low)
    | _, _ => none
  | .nilEq kind neg x y => (nilEqA kind (ev x) (ev y)).map fun e => (.bool (if neg then !e else e), H, low)
  | .un op x => (unA op (ev x)).map fun v => (v, H, low)
  | .conv k x => match ev x with
    | .int _ n => some (.int k (k.wrap n), H, low)
    | _ => none
  | .mkIface t x => match freezeV H low (ev x) with
    | some (v, H', low') => some (.iface t v, H', low')
    | none => none
  | .mkFn i a b => some (.fn i (a.map ev) (b.map ev), H, low)
  | .mkMap => some (.map H.length, H ++ [.map []], low)
  | .mkSlice es z bytes l c => match ev l, ev c with
    | .int _ n, .int _ m => if n = m ∧ 0 ≤ n ∧ n * (bytes + 1) ≤ 2 ^ 40 then
        (if n = 0 then some (.emp, H, low) else
          some (.sref H.length es 0 n.toNat n.toNat, H ++ [.row es (List.replicate n.toNat (zeroElem z)) false], low)) else none
    | _, _ => none
  | .sliceS x lo hi => match ev x with
    | .str s => match bnd ev 0 lo, bnd ev s.length hi with
      | some a, some b => if a ≤ b ∧ b ≤ s.length then some (.str ((s.take b).drop a), H, low) else none
      | _, _ => none
    | _ => none
  | .sliceL es x lo hi mx => match ev x with
    | .nil0 => match bnd ev 0 lo, bnd ev 0 hi, bnd ev 0 mx with
      | some 0, some 0, some 0 => some (.nil0, H, low)
      | _, _, _ => none
    | .emp => match bnd ev 0 lo, bnd ev 0 hi, bnd ev 0 mx with
      | some 0, some 0, some 0 => some (.emp, H, low)
      | _, _, _ => none
    | .list es' ds => match bnd ev 0 lo, bnd ev ds.length hi with
      | some a, some b => if a ≤ b ∧ b ≤ ds.length ∧ es' = es then
          match mx with
          | none => some (.list es ((ds.take b).drop a), H, low)
          | some m => if natOf (ev m) = some 0 ∧ b = 0 then some (.emp, H, low) else none
        else none
      | _, _ => none
    | .sref l es' off len tag => match bnd ev 0 lo, bnd ev len hi with
      | some a, some b => if a ≤ b ∧ b ≤ len ∧ es' = es then
          match mx with
          | none => match H[l]? with
            | some (.row es'' ds _) => if ds.length = tag ∧ es'' = es ∧ a < b then some (.sref l es (off + a) (b - a) tag, H, low) else none
            | _ => none
          | some m => if natOf (ev m) = some 0 ∧ b = 0 then some (.emp, H, low) else none
        else none
      | _, _ => none
    | _ => none
  | .fieldAddr off x => match ev x with
    | .ptr l o => some (.ptr l (o + off), H, low)
    | .eptr l es i f tag => some (.eptr l es i (f + off) tag, H, low)
    | .pin vs f => some (.pin vs (f + off), H, low)
    | _ => none
  | .field off sh x => match ev x with
    | .agg vs => (readCells vs off sh).map fun v => (v, H, low)
    | _ => none
  | .indexAddr es x i => match natOf (ev i) with
    | some i => match ev x with
      | .list es' ds => if es' = es then (ds[i]?).map fun d => (.pin (cellsV d) 0, H, low) else none
      | .sref l es' off len tag => match H[l]? with
        | some (.row es'' ds _) => if es' = es ∧ es'' = es ∧ ds.length = tag ∧ i < len ∧ off + len ≤ ds.length then some (.eptr l es (off + i) 0 tag, H, low) else none
        | _ => none
      | _ => none
    | none => none
  | .indexS x i => match ev x, natOf (ev i) with
    | .str s, some i => (s[i]?).map fun c => (.int .u8 c.toNat, H, low)
    | _, _ => none
  | .lookup kind z x i ok => match ev x with
    | .nilm => some (if ok then .tup [z, .bool false] else z, H, low)
    | .map l => match H[l]? with
      | some (.map ents) => match findEnt kind (ev i) ents with
        | some (some v) => some (if ok then .tup [v, .bool true] else v, H, low)
        | some none => some (if ok then .tup [z, .bool false] else z, H, low)
        | none => none
      | _ => none
    | _ => none
  | .mapUpd kind m k v => match freezeV H low (ev v) with
    | some (v', H', low') => if isU v' then none else match ev m with
      | .map l => match H'[l]? with
        | some (.map ents) => match findEnt kind (ev k) ents with
          | some _ => some (.undef, H'.set l (.map (setEnt kind (ev k) v' ents)), min low' l)
          | none => none
        | _ => none
      | _ => none
    | none => none
  | .extract x i => match ev x with
    | .tup vs => (vs[i]?).map fun v => (v, H, low)
    | _ => none
  | .len kind x => match kind, ev x with
    | 0, .str s => some (.int .i64 s.length, H, low)
    | 1, .nil0 | 1, .emp => some (.int .i64 0, H, low)
    | 1, .list _ ds => some (.int .i64 ds.length, H, low)
    | 1, .sref l es _ len tag => match H[l]? with
      | some (.row es' ds _) => if es' = es ∧ ds.length = tag then some (.int .i64 len, H, low) else none
      | _ => none
    | 2, .nilm => some (.int .i64 0, H, low)
    | 2, .map l => match H[l]? with
      | some (.map ents) => some (.int .i64 ents.length, H, low)
      | _ => none
    | _, _ => none
  | .append es bytes a b => match elems H es (ev b) with
    | some xs => match freezeVs H low xs with
      | some (xs, H', low') =>
        if xs.isEmpty then
          match ev a with
          | .nil0 => some (.nil0, H', low')
          | .emp => some (.emp, H', low')
          | .list es' ds => some (.list es' ds, H', low')
          | .sref l es' off len tag => match H'[l]? with
            | some (.row _ ds _) => if ds.length = tag then some (.sref l es' off len tag, H', low') else none
            | _ => none
          | _ => none
        else if cellsOk (xs.flatMap cellsV) = false then none else
        match ev a with
        | .nil0 => if xs.length * (bytes + 1) ≤ 2 ^ 40 then
            some (.sref H'.length es 0 xs.length xs.length, H' ++ [.row es xs false], low') else none
        | .emp => if xs.length * (bytes + 1) ≤ 2 ^ 40 then
            some (.sref H'.length es 0 xs.length xs.length, H' ++ [.row es xs false], low') else none
        | .sref l es' off len tag => match H'[l]? with
          | some (.row es'' ds false) =>
            if es' = es ∧ es'' = es ∧ ds.length = tag ∧ off = 0 ∧ len = tag ∧ (len + xs.length) * (bytes + 1) ≤ 2 ^ 40 then
              some (.sref l es 0 (len + xs.length) (len + xs.length), H'.set l (.row es (ds ++ xs) false), min low' l)
            else none
          | _ => none
        | _ => none
      | none => none
    | none => none
  | .minmax mx x y => match ev x, ev y with
    | .int k a, .int k' b => if k = k' then some (.int k (if mx then max a b else min a b), H, low) else none
    | _, _ => none
  | .copy es a b => match ev a, elems H es (ev b) with
    | .nil0, some _ | .emp, some _ => some (.int .i64 0, H, low)
    | .sref l es' off len tag, some xs => match H[l]? with
      | some (.row es'' ds false) =>
        if es' = es ∧ es'' = es ∧ ds.length = tag ∧ off + len ≤ ds.length ∧ plainCells (xs.flatMap cellsV) = true then
          some (.int .i64 ((min len xs.length : Nat) : Int), H.set l (.row es (ds.take off ++ xs.take len ++ ds.drop (off + min len xs.length)) false), min low l)
        else none
      | _ => none
    | _, _ => none
  | .call _ _ _ => none
  | .fail => none

/-! ### code -/

/-- What a call does: the value, the heap, the oldest object that was written. -/
abbrev CallT := V → List V → Heap → Option (V × Heap × Nat)

/-- What was skipped has the empty tuple. -/
def wantedA (tE vE : Env) : Option (Opd × Bool) → Option Bool
  | none => some true
  | some (t, b) => match t.ev tE vE with
    | .bool c => some (c == b)
    | .tup [] => some false
    | _ => none

def St.put (st : St) : Option (Nat × Bool) → V → St
  | none, _ => st
  | some (t, true), v => { st with vE := setE st.vE t v }
  | some (t, false), v => { st with tE := (t, v) :: st.tE }

def stepC (call : CallT) (ev : Opd → V) (H : Heap) (low : Nat) : AOp → Option (V × Heap × Nat)
  | .call true f args => match call (ev f) (args.map ev) H with
    | some (v, H', l) => some (v, H', min low l)
    | none => none
  | .call false f args => match freezeVs H low (args.map ev) with
    | some (vs, H', low') => match call (ev f) vs H' with
      | some (v, H'', l) => if flat v = true ∧ H'.length ≤ l then some (v, H, low) else some (v, H'', min low' l)
      | none => none
    | none => none
  | op => step ev H low op

/-- Whether an operation has written an object, or made one. -/
def movedH (H H' : Heap) (low : Nat) : Bool := decide (low < H.length) || H'.length != H.length

/-- The operations of a region, in the order of their numbers; 'wr' collects which of them changed the heap. -/
def execOps (call : CallT) : List AOper → St → List Bool → Option (St × List Bool)
  | [], st, wr => some (st, wr.reverse)
  | o :: r, st, wr =>
    match wantedA st.tE st.vE o.guard with
    | some true => match stepC call (Opd.ev st.tE st.vE) st.H st.H.length o.op with
      | some (v, H', low') => execOps call r ({ st with H := H', low := min st.low low' }.put o.dst v) (movedH st.H H' low' :: wr)
      | none => none
    | some false => execOps call r (st.put o.dst (.tup [])) (false :: wr)
    | none => none

/-- Operations that look at the heap, or make objects. -/
def touches : AOp → Bool
  | .mv _ | .pick .. | .bin .. | .eqAgg .. | .nilEq .. | .un .. | .conv .. | .sliceS .. | .fieldAddr .. | .field .. | .indexS .. | .extract .. | .minmax .. => false
  | _ => true

/-- What an operation looks at. -/
def AOp.operands : AOp → List Opd
  | .mv x | .box x | .load _ x | .nilCheck x | .un _ x | .conv _ x | .mkIface _ x | .fieldAddr _ x | .field _ _ x | .extract x _ | .len _ x => [x]
  | .pick a b c => [a, b, c]
  | .alloc _ | .mkMap | .fail => []
  | .build _ parts => parts.map (·.2.2)
  | .lit _ _ _ parts _ => parts.map (·.2)
  | .store _ a x | .bin _ a x | .eqAgg _ _ a x | .nilEq _ _ a x | .mkSlice _ _ _ a x | .indexAddr _ a x | .indexS a x | .lookup _ _ a x _ | .append _ _ a x | .minmax _ a x | .copy _ a x => [a, x]
  | .mkFn _ a b => a ++ b
  | .sliceS x lo hi => x :: (lo.toList ++ hi.toList)
  | .sliceL _ x lo hi mx => x :: (lo.toList ++ hi.toList ++ mx.toList)
  | .mapUpd _ m k v => [m, k, v]
  | .call _ f args => f :: args

/-- Whoever changed the heap stands in order with whoever looks. 'bef': of each operation the bits of those that come before it. -/
def inOrder (bef : List Nat) (ops : List AOper) (wr : List Bool) : Bool :=
  if wr.any id then
    (wr.zipIdx).all fun (w, i) => !w || (ops.zipIdx).all fun (o, j) =>
      !touches o.op || i == j || (if j < i then (bef.getD i 0).testBit j else (bef.getD j 0).testBit i)
  else true

def iter (f : St → Option (X × St)) : Nat → St → Option (X × St)
  | 0, _ => none
  | n + 1, st => match f st with
    | some (.normal, st') => iter f n st'
    | r => r

def isFn : V → Bool
  | .fn .. => true
  | _ => false

/-- A round's own record is there. -/
def roOk (H : Heap) : Option Nat → Bool
  | none => true
  | some l => match H[l]? with
    | some (.loop ..) => true
    | _ => false

/-- The whole code of a body, calls by 'call', loops of at most n rounds. -/
def exec (call : CallT) (n : Nat) : ACode → St → Option (X × St)
  | .skip, st => some (.normal, st)
  | .region ops bef, st => match execOps call ops { st with tE := [] } [] with
    | some (st', wr) => match bef with
      | none => some (.normal, { st' with tE := [] })
      | some b => if inOrder b ops wr then some (.normal, { st' with tE := [] }) else none
    | none => none
  | .seq a b, st => match exec call n a st with
    | some (.normal, st') => exec call n b st'
    | r => r
  | .cond c t e, st => match c.ev st.tE st.vE with
    | .bool true => exec call n t st
    | .bool false => exec call n e st
    | _ => none
  | .block id c, st => match exec call n c st with
    | some (.exit id', st') => if id' = id then some (.normal, st') else some (.exit id', st')
    | r => r
  | .loop c, st => iter (exec call n c) n st
  | .rangeFunc f params assign body, st =>
    let l := st.H.length
    if (roOk st.H st.ro && isFn (f.ev st.tE st.vE)) = false then none else
    match call (f.ev st.tE st.vE) [.yield l] (st.H ++ [.loop .ready .normal st.vE params assign body]) with
    | some (_, H', low') => match H'[l]? with
      | some (.loop ls pend _ _ _ _) => if ls = .busy then none else some (pend, { st with H := H'.set l .gone, low := min st.low low' })
      | _ => none
    | none => none
  | .exit id, st => some (.exit id, st)
  | .ret, st => some (.ret, st)
  | .fail, _ => none

def resultA (vE : Env) (H : Heap) : ARes → Option V
  | .tmp t => some (lookupE vE t)
  | .cell a sh => loadA H sh (lookupE vE a)

def resultsA (env : Env) (H : Heap) : List ARes → Option (List V)
  | [] => some []
  | r :: rs => match resultA env H r with
    | some v => match resultsA env H rs with
      | some vs => some (v :: vs)
      | none => none
    | none => none

def zipE : Nat → List V → Env
  | _, [] => []
  | i, v :: r => (i, v) :: zipE (i + 1) r

/-- What a call leaves: nothing old was written and nothing new is handed back: the heap is the caller's. A row of its own that it hands back becomes the caller's next object. -/
def finish (fresh : Bool) (H0 : Heap) (v : V) (H : Heap) (low : Nat) : Option (V × Heap × Nat) :=
  match fresh, v with
  | true, .sref l es off len tag => match H[l]? with
    | some (.row es' ds false) =>
      if H0.length ≤ low ∧ H0.length ≤ l ∧ es' = es ∧ ds.length = tag ∧ olds H0.length ds = true then some (.sref H0.length es off len tag, H0 ++ [.row es ds false], H0.length) else none
    | _ => none
  | _, v => match freezeV H low v with
    | some (v', H', low') => if H0.length ≤ low' ∧ old H0.length v' = true then some (v', H0, H0.length) else some (v', H', low')
    | none => none

inductive Fun where
  | code (f : AFunc)
  | ext (spec : List V → Option V)
  deriving Inhabited

def callBody (ex : ACode → St → Option (X × St)) (f : AFunc) (args : List V) (H : Heap) : Option (V × Heap × Nat) :=
  if args.length ≤ f.nslots then
    match ex f.body { tE := [], vE := zipE 0 args, H, low := H.length } with
    | some (.normal, st) | some (.ret, st) => match resultsA st.vE st.H f.results with
      | some [v] => finish f.fresh H v st.H st.low
      | some vs => finish f.fresh H (.tup vs) st.H st.low
      | none => none
    | _ => none
  else none

def yieldBody (ex : ACode → St → Option (X × St)) (l : Nat) (args : List V) (H : Heap) : Option (V × Heap × Nat) :=
  match H[l]? with
  | some (.loop .ready _ env params assign body) =>
    if args.length = params.length then
      match ex assign { tE := [], vE := (params.zip args).foldl (fun e (t, v) => setE e t v) env, H, low := H.length, ro := some l } with
      | some (.normal, st) => match st.H[l]? with
        | some (.loop .ready p env' ps as bd) => match ex body { st with H := st.H.set l (.loop .busy p env' ps as bd), low := min st.low l } with
          | some (x, st') => match st'.H[l]? with
            | some (.loop _ _ env'' ps' as' bd') =>
              some (.bool (x = .normal), st'.H.set l (.loop (if x = .normal then .ready else .done) x env'' ps' as' bd'), min st'.low l)
            | _ => none
          | none => none
        | _ => none
      | _ => none
    else none
  | _ => none

def callV (tab : Nat → Option Fun) (call : CallT) (n : Nat) : CallT := fun f args H =>
  match f with
  | .fn i first caps => match tab i with
    | some (.code fn) => callBody (exec call n) fn (first ++ args ++ caps) H
    | some (.ext spec) => if isPs (first ++ args ++ caps) then (spec (first ++ args ++ caps)).map fun v => (v, H, H.length) else none
    | none => none
  | .yield l => yieldBody (exec call n) l args H
  | _ => none

def callN (tab : Nat → Option Fun) : Nat → CallT
  | 0 => fun _ _ _ => none
  | n + 1 => callV tab (callN tab n) n

end Go.Abs
/- From the program's code to the simplified code: the types' sizes and zero values are looked up here, once. -/
namespace Go.Abs
open Go

mutual
def constV : Value → Option V
  | .bool b => some (.bool b)
  | .int k n => some (.int k n)
  | .string s => some (.str s.data.toList)
  | .pointer none => some .nilp
  | .slice none 0 0 => some .nil0
  | .map none => some .nilm
  | .nilFunc => some .nilf
  | .nilIface => some .nili
  | .agg ⟨vs⟩ => (constVs vs).map .agg
  | .tuple ⟨[]⟩ => some .undef
  | _ => none
def constVs : List Value → Option (List V)
  | [] => some []
  | v :: r => match constV v with
    | some v' => if isU v' then none else (constVs r).map (v' :: ·)
    | none => none
end

def mapO {α β : Type} (f : α → Option β) : List α → Option (List β)
  | [] => some []
  | a :: r => match f a with
    | some b => match mapO f r with
      | some bs => some (b :: bs)
      | none => none
    | none => none

structure Ctx where
  P : Program
  fidx : Nat → Option Nat
  im : String → Bool := fun _ => true
  raw : Nat → Bool := fun _ => false
  glob : Nat → Option Obj := fun _ => none

namespace Ctx
variable (C : Ctx)

def sizeOf (t : Nat) : Option Nat := (C.P.info? t).map (·.size)
def zeroCells (t : Nat) : Option (List V) := match C.P.info? t with
  | some i => match i.zero with
    | some z => match constVs z.cells.toList with
      | some vs => if cellsOk vs then some vs else none
      | none => none
    | none => none
  | none => none
def zeroV (t : Nat) : Option V := match C.P.info? t with
  | some i => match i.zero with
    | some z => constV z
    | none => none
  | none => none
def shapeOf (t : Nat) : Option (Option Nat) := match C.P.underlying t with
  | some (.struct _) | some (.array _ _) => (C.sizeOf t).map some
  | some _ => some none
  | none => none
def scalarT (t : Nat) : Bool := match C.P.underlying t with
  | some (.int _) | some .string | some .bool => true
  | _ => false

def opd (vars : List Nat) : Operand → Option Opd
  | .tmp t => some (if vars.contains t then .var t else .tmp t)
  | .const v => (constV v).map .const
  | .func f => (C.fidx f).map .func
  | .global _ => none
def opdO (vars : List Nat) : Option Operand → Option (Option Opd)
  | none => some none
  | some x => (C.opd vars x).map some

def kindT (t : Nat) : Option Nat := match C.P.underlying t with
  | some (.int _) => some 0
  | some .string => some 1
  | some .bool => some 2
  | _ => none

def eqKinds (i : Nat) : List Field → Option (List Nat)
  | [] => some []
  | f :: fs => match C.kindT f.type with
    | some k => if f.name != "_" && f.offset == i then (eqKinds (i + 1) fs).map (k :: ·) else none
    | none => none

def structEq (t : Nat) : Option (List Nat) := match C.P.underlying t with
  | some (.struct fs) => if !C.P.stoodInHeld t && !C.P.eqGuardType C.P.depth t then C.eqKinds 0 fs.toList else none
  | _ => none

def isNilConst : Opd → Bool
  | .const .nili => true
  | _ => false

def nilKind (d : TypeDesc) (x y : Opd) (plain : AOp) (neg : Bool) : Option AOp :=
  match d with
  | .int _ | .string => some plain
  | .pointer _ => some (.nilEq 0 neg x y)
  | .slice _ => some (.nilEq 1 neg x y)
  | .func .. => some (.nilEq 2 neg x y)
  | .interface _ => if isNilConst y then some (.nilEq 3 neg x y) else none
  | .bool => some (.nilEq 4 neg x y)
  | _ => none

def builtin (vars : List Nat) (b : Builtin) (args : Array Operand) (ts : Array TypeId) : Option AOp :=
  match b, args.toList, ts.toList with
  | .len, [x], [t] => match C.P.underlying t with
    | some .string => (C.opd vars x).map (.len 0)
    | some (.slice _) => (C.opd vars x).map (.len 1)
    | some (.map _ _) => (C.opd vars x).map (.len 2)
    | _ => none
  | .append, [a, b], [t, u] => match C.P.underlying t, C.P.underlying u with
    | some (.slice e), some (.slice _) => match C.P.info? e, C.opd vars a, C.opd vars b with
      | some i, some a, some b => if i.size = 0 || i.zero.map (·.cells.size) != some i.size then none else some (.append i.size i.bytes a b)
      | _, _, _ => none
    | _, _ => none
  | .max, [a, b], _ => match C.opd vars a, C.opd vars b with
    | some a, some b => some (.minmax true a b)
    | _, _ => none
  | .copy, [a, b], [t, u] => match C.P.underlying t, C.P.underlying u with
    | some (.slice e), some (.slice _) => match C.sizeOf e, C.opd vars a, C.opd vars b with
      | some n, some a, some b => if n = 0 then none else some (.copy n a b)
      | _, _, _ => none
    | _, _ => none
  | .min, [a, b], _ => match C.opd vars a, C.opd vars b with
    | some a, some b => some (.minmax false a b)
    | _, _ => none
  | _, _, _ => none

def op0 (vars : List Nat) (pos : String) : Op → Option AOp
  | .move x | .assign x => (C.opd vars x).map .mv
  | .pick c a b => match C.opd vars c, C.opd vars a, C.opd vars b with
    | some c, some a, some b => some (.pick c a b)
    | _, _, _ => none
  | .alloc t => (C.zeroCells t).map .alloc
  | .box _ x => (C.opd vars x).map .box
  | .build t parts => match C.P.underlying t, C.zeroCells t with
    | some (.struct fs), some z => if fs.toList.any (fun f => (C.sizeOf f.type).isNone) then none else (mapO (fun (p : Nat × Operand) => match fs[p.1]? with
        | some f => match C.sizeOf f.type, C.opd vars p.2 with
          | some n, some x => some (f.offset, n, x)
          | _, _ => none
        | none => none) parts.toList).map (.build z)
    | some (.array _ e), some z => match C.sizeOf e with
      | some n => (mapO (fun (p : Nat × Operand) => match C.opd vars p.2 with
          | some x => some (p.1 * n, n, x)
          | none => none) parts.toList).map (.build z)
      | none => none
    | _, _ => none
  | .buildSlice t len parts => match C.P.underlying t with
    | some (.slice e) => match C.sizeOf e, C.zeroCells e, mapO (fun (p : Nat × Operand) => (C.opd vars p.2).map fun x => (p.1, x)) parts.toList with
      | some n, some z, some ps => if n = 0 ∨ len * n > 2 ^ 24 ∨ z.length ≠ n then none else some (.lit n z len ps (C.im pos))
      | _, _, _ => none
    | _ => none
  | .load t a => match C.shapeOf t, C.opd vars a with
    | some sh, some a => some (.load sh a)
    | _, _ => none
  | .store t a x => match C.sizeOf t, C.opd vars a, C.opd vars x with
    | some n, some a, some x => some (.store n a x)
    | _, _, _ => none
  | .nilCheck x => (C.opd vars x).map .nilCheck
  | .binOp o t x y _ => match C.opd vars x, C.opd vars y with
    | some x, some y => match o, C.P.underlying t with
      | .eql, some (.struct _) => (C.structEq t).map fun n => .eqAgg false n x y
      | .neq, some (.struct _) => (C.structEq t).map fun n => .eqAgg true n x y
      | .eql, some d => nilKind d x y (.bin .eql x y) false
      | .neq, some d => nilKind d x y (.bin .neq x y) true
      | .eql, none | .neq, none => none
      | _, _ => some (.bin o x y)
    | _, _ => none
  | .unOp o _ x => (C.opd vars x).map (.un o)
  | .convert s d x => match C.P.underlying s, C.P.underlying d, C.opd vars x with
    | some (.int _), some (.int k), some x => some (.conv k x)
    | _, _, _ => none
  | .makeInterface t x => match C.P.underlying t, C.opd vars x with
    | some (.interface _), _ => none
    | some _, some x => some (.mkIface t x)
    | _, _ => none
  | .makeFunc (.func f) a b => match C.fidx f, mapO (C.opd vars) a.toList, mapO (C.opd vars) b.toList with
    | some i, some a, some b => some (.mkFn i a b)
    | _, _, _ => none
  | .makeMap _ none => some .mkMap
  | .makeSlice t l c => match C.P.underlying t with
    | some (.slice e) => match C.P.info? e, C.zeroCells e, C.opd vars l, C.opd vars c with
      | some i, some z, some l, some c => if i.size = 0 ∨ z.length ≠ i.size then none else some (.mkSlice i.size z i.bytes l c)
      | _, _, _, _ => none
    | _ => none
  | .slice t x lo hi mx => match C.P.underlying t, C.opd vars x, C.opdO vars lo, C.opdO vars hi, C.opdO vars mx with
    | some .string, some x, some lo, some hi, some none => some (.sliceS x lo hi)
    | some (.slice e), some x, some lo, some hi, some mx => match C.sizeOf e with
      | some n => if n = 0 || (hi.isNone && mx.isSome) then none else some (.sliceL n x lo hi mx)
      | none => none
    | _, _, _, _, _ => none
  | .fieldAddr s x f => match C.P.underlying s, C.opd vars x with
    | some (.struct fs), some x => match fs[f]? with
      | some fl => match C.sizeOf fl.type with
        | some n => if n = 0 then none else some (.fieldAddr fl.offset x)
        | none => none
      | none => none
    | _, _ => none
  | .field s x f => match C.P.underlying s, C.opd vars x with
    | some (.struct fs), some x => match fs[f]? with
      | some fl => (C.shapeOf fl.type).map fun sh => .field fl.offset sh x
      | none => none
    | _, _ => none
  | .indexAddr t x i => match C.P.underlying t, C.opd vars x, C.opd vars i with
    | some (.slice e), some x, some i => match C.sizeOf e with
      | some n => if n = 0 then none else some (.indexAddr n x i)
      | none => none
    | _, _, _ => none
  | .index t x i => match C.P.underlying t, C.opd vars x, C.opd vars i with
    | some .string, some x, some i => some (.indexS x i)
    | _, _, _ => none
  | .lookup t x i ok => match C.P.underlying t, C.opd vars x, C.opd vars i with
    | some (.map k e), some x, some i => match C.kindT k, C.zeroV e with
      | some kd, some z => if isU z then none else some (.lookup kd z x i ok)
      | _, _ => none
    | _, _, _ => none
  | .mapUpdate t m k v => match C.P.underlying t, C.opd vars m, C.opd vars k, C.opd vars v with
    | some (.map kt _), some m, some k, some v => (C.kindT kt).map fun kd => .mapUpd kd m k v
    | _, _, _, _ => none
  | .extract x i => (C.opd vars x).map fun x => .extract x i
  | .call { callee := .value f, args, .. } => match C.opd vars f, mapO (C.opd vars) args.toList with
    | some f, some as => some (.call (match f with | .func i => C.raw i | _ => false) f as)
    | _, _ => none
  | .call { callee := .builtin b, args, argTypes } => C.builtin vars b args argTypes
  | _ => none

/-- What is not served stops the executor where it comes there. -/
def op (vars : List Nat) (pos : String) (o : Op) : AOp := (C.op0 vars pos o).getD .fail

def guard (vars : List Nat) (ops : Array Oper) : Option (Nat × Bool) → Option (Option (Opd × Bool))
  | none => some none
  | some (j, want) => match (ops[j]?).bind (·.dst) with
    | some d => some (some (if vars.contains d then .var d else .tmp d, want))
    | none => none

def oper (vars : List Nat) (n : Nat) (ops : Array Oper) (o : Oper) : Option AOper :=
  match guard vars ops o.guard with
  | some g => match o.dst with
    | none => some { dst := none, op := C.op vars o.pos o.op, guard := g }
    | some d => if d < n then some { dst := some (d, vars.contains d), op := C.op vars o.pos o.op, guard := g } else none
  | none => none

/-- Edges look back, but those of the compiler's order alone. -/
def plainEdges (ops : Array Oper) : Bool :=
  ops.toList.zipIdx.all fun (o, i) => o.after.all fun e => match e.ground with | .gcOnly _ => true | _ => decide (e.on < i)

def tmpsOf (xs : Array Operand) : List Nat := xs.toList.filterMap fun | .tmp t => some t | _ => none

/-- The slots that an operation reads. -/
def slots (ops : Array Oper) (o : Oper) : List Nat :=
  tmpsOf o.op.operands ++ (match o.guard with | some (j, _) => ((ops[j]?).bind (·.dst)).toList | none => [])

/-- Who writes a slot stands in order with whoever names it. -/
def apartOk (ops : Array Oper) : Bool :=
  let b := CheckFast.beforeF ops
  ops.toList.zipIdx.all fun (o, j) => ops.toList.zipIdx.all fun (p, i) =>
    match p.dst with
    | none => true
    | some d => i == j || !(o.dst == some d || (slots ops o).contains d) || (b.getD (max i j) 0).testBit (min i j)

def seesOk (ops : Array Oper) (o : Oper) (a : AOper) : Bool :=
  a.op.operands.all fun
    | .tmp t | .var t => (slots ops o).contains t
    | _ => true

def code (vars : List Nat) (n : Nat) : Code → Option ACode
  | .skip => some .skip
  | .region _ ops draw => match mapO (C.oper vars n ops) ops.toList with
    | some aops =>
      if !draw then some (.region aops none)
      else if plainEdges ops && apartOk ops && (ops.toList.zip aops).all (fun (o, a) => seesOk ops o a) then some (.region aops (some (CheckFast.beforeF ops).toList)) else none
    | none => none
  | .seq a b => match code vars n a, code vars n b with
    | some a, some b => some (.seq a b)
    | _, _ => none
  | .cond c t e => match C.opd vars c, code vars n t, code vars n e with
    | some c, some t, some e => some (.cond c t e)
    | _, _, _ => none
  | .block id c => (code vars n c).map (.block id)
  | .loop c => (code vars n c).map .loop
  | .rangeFunc f ps a b => match C.opd vars f, code vars n a, code vars n b with
    | some f, some a, some b => if ps.all (fun t => decide (t < n) && vars.contains t) then some (.rangeFunc f ps.toList a b) else none
    | _, _, _ => none
  | .exit id => some (.exit id)
  | .ret => some .ret
  | _ => some .fail

/-- Slots that are read in a region ahead of any write there, or outside of regions. -/
def exposed : Code → List Nat
  | .region _ ops _ => (ops.toList.foldl (fun (acc : List Nat × List Nat) o =>
      let g := match o.guard with | some (j, _) => ((ops[j]?).bind (·.dst)).toList | none => []
      let reads := (g ++ tmpsOf o.op.operands).filter fun t => !acc.2.contains t
      (acc.1 ++ reads, o.dst.toList ++ acc.2)) ([], [])).1
  | .seq a b => exposed a ++ exposed b
  | .cond c t e => tmpsOf #[c] ++ exposed t ++ exposed e
  | .block _ c | .loop c => exposed c
  | .rangeFunc f ps a b => tmpsOf #[f] ++ ps.toList ++ exposed a ++ exposed b
  | _ => []

def res : ResultVar → Option ARes
  | .tmp t => some (.tmp t)
  | .cell a t => (C.shapeOf t).map (.cell a)

def resSlots : List ResultVar → List Nat
  | [] => []
  | .tmp t :: r => t :: resSlots r
  | .cell a _ :: r => a :: resSlots r

def varsOf (f : Func) : List Nat :=
  ((List.range (f.params.size + f.nfree) ++ resSlots f.results.toList ++ (match f.body with | some c => exposed c | none => [])).eraseDups)

def func (f : Func) (fresh : Bool) : Option AFunc :=
  match f.body with
  | some c => match C.code (varsOf f) f.ntmps c, mapO C.res f.results.toList with
    | some b, some rs => if f.name == "runtime.NumGoroutine" then none else some { nslots := f.ntmps, body := b, results := rs, fresh }
    | _, _ => none
  | none => none
end Ctx

end Go.Abs
/- How abstract values and heaps stand to the real memory. 'β': where an abstract object lies; 'I': the blocks that are never written again. -/
namespace Go.Abs
open Go

structure Home where
  b : Nat
  tag : Nat
  csz : Nat
  fz : Bool

structure Gh where
  β : Nat → Option Home
  I : Nat → Prop

def CellsAt (w : World) (b o : Nat) (vals : List Value) : Prop :=
  ∀ (j : Nat) (x : Value), vals[j]? = some x → w.cell? ⟨b, o + j, none⟩ = some x

mutual
inductive PRel (w : World) (I : Nat → Prop) : V → Value → Prop
  | bool (b : Bool) : PRel w I (.bool b) (.bool b)
  | int (k : IntKind) (n : Int) : PRel w I (.int k n) (.int k n)
  | str (s : List UInt8) : PRel w I (.str s) (.string ⟨⟨s⟩⟩)
  | nil0 : PRel w I .nil0 (.slice none 0 0)
  | emp (a : Addr) : PRel w I .emp (.slice (some a) 0 0)
  | list0 (es : Nat) (a : Addr) (cap : Nat) : PRel w I (.list es []) (.slice (some a) 0 cap)
  | list (es : Nat) (ds : List V) (b o cap : Nat) (vals : List Value) (hI : I b) (hc : CellsAt w b o vals) (hu : ∀ d ∈ ds, (cellsV d).length = es)
      (hr : PRels w I (ds.flatMap cellsV) vals) (hl : ds.length ≤ cap) : PRel w I (.list es ds) (.slice (some ⟨b, o, none⟩) ds.length cap)
  | nilp : PRel w I .nilp (.pointer none)
  | nilm : PRel w I .nilm (.map none)
  | nilf : PRel w I .nilf .nilFunc
  | nili : PRel w I .nili .nilIface
  | agg (vs : List V) (vals : List Value) (hr : PRels w I vs vals) : PRel w I (.agg vs) (.agg ⟨vals⟩)
  | tup (vs : List V) (vals : List Value) (hr : PRels w I vs vals) : PRel w I (.tup vs) (.tuple ⟨vals⟩)
  | iface (t : Nat) (v : V) (x : Value) (hr : PRel w I v x) : PRel w I (.iface t v) (.iface t x)
inductive PRels (w : World) (I : Nat → Prop) : List V → List Value → Prop
  | nil : PRels w I [] []
  | cons (v : V) (x : Value) (vs : List V) (xs : List Value) (h : PRel w I v x) (hs : PRels w I vs xs) : PRels w I (v :: vs) (x :: xs)
end

section
variable (fid : Nat → Nat)
mutual
inductive VRel (G : Gh) (w : World) : V → Value → Prop
  | p (v : V) (x : Value) (h : PRel w G.I v x) : VRel G w v x
  | ptr (l o : Nat) (h : Home) (hb : G.β l = some h) (ht : h.tag = 0) : VRel G w (.ptr l o) (.pointer (some ⟨h.b, o, none⟩))
  | eptr (l es i f tag : Nat) (h : Home) (a : Addr) (hb : G.β l = some h) (hle : tag ≤ h.tag) (ha : h.tag = tag → a = ⟨h.b, i * es + f, none⟩) :
      VRel G w (.eptr l es i f tag) (.pointer (some a))
  | pin (vs : List V) (f b o : Nat) (vals : List Value) (hI : G.I b) (hc : CellsAt w b o vals) (hr : PRels w G.I vs vals) : VRel G w (.pin vs f) (.pointer (some ⟨b, o + f, none⟩))
  | sref (l es off len tag : Nat) (h : Home) (a : Addr) (n cap : Nat) (hb : G.β l = some h) (hle : tag ≤ h.tag)
      (ha : h.tag = tag → a = ⟨h.b, off * es, none⟩ ∧ n = len ∧ (off + cap) * es ≤ h.csz ∧ len ≤ cap) : VRel G w (.sref l es off len tag) (.slice (some a) n cap)
  | map (l : Nat) (h : Home) (hb : G.β l = some h) (ht : h.tag = 0) : VRel G w (.map l) (.map (some h.b))
  | fn (i : Nat) (fs cs : List V) (xs ys : List Value) (hf : VRels G w fs xs) (hc : VRels G w cs ys) : VRel G w (.fn i fs cs) (.func (.func (fid i)) ⟨xs⟩ ⟨ys⟩)
  | yield (l : Nat) (h : Home) (hb : G.β l = some h) (ht : h.tag = 0) : VRel G w (.yield l) (.func (.yield h.b) #[] #[])
  | agg (vs : List V) (vals : List Value) (hr : VRels G w vs vals) : VRel G w (.agg vs) (.agg ⟨vals⟩)
  | tup (vs : List V) (vals : List Value) (hr : VRels G w vs vals) : VRel G w (.tup vs) (.tuple ⟨vals⟩)
  | iface (t : Nat) (v : V) (x : Value) (hr : VRel G w v x) : VRel G w (.iface t v) (.iface t x)
  | undef (x : Value) : VRel G w .undef x
inductive VRels (G : Gh) (w : World) : List V → List Value → Prop
  | nil : VRels G w [] []
  | cons (v : V) (x : Value) (vs : List V) (xs : List Value) (h : VRel G w v x) (hs : VRels G w vs xs) : VRels G w (v :: vs) (x :: xs)
end
end

variable {fid : Nat → Nat} {w w' : World} {G G' : Gh} {I I' : Nat → Prop}

theorem cell_of_block {b : Nat} (h : w'.heap[b]? = w.heap[b]?) (o : Nat) : w'.cell? ⟨b, o, none⟩ = w.cell? ⟨b, o, none⟩ := by
  simp [World.cell?, h]

theorem CellsAt.keep {b o : Nat} {vals : List Value} (h : CellsAt w b o vals) (hb : w'.heap[b]? = w.heap[b]?) : CellsAt w' b o vals :=
  fun j x hx => by rw [cell_of_block hb]; exact h j x hx

mutual
theorem PRel.mono (hI : ∀ b, I b → I' b ∧ w'.heap[b]? = w.heap[b]?) : ∀ {v : V} {x : Value}, PRel w I v x → PRel w' I' v x
  | _, _, .bool b => .bool b
  | _, _, .int k n => .int k n
  | _, _, .str s => .str s
  | _, _, .nil0 => .nil0
  | _, _, .emp a => .emp a
  | _, _, .list0 es a cap => .list0 es a cap
  | _, _, .list es ds b o cap vals h hc hu hr hl => .list es ds b o cap vals (hI b h).1 (hc.keep (hI b h).2) hu (PRels.mono hI hr) hl
  | _, _, .nilp => .nilp
  | _, _, .nilm => .nilm
  | _, _, .nilf => .nilf
  | _, _, .nili => .nili
  | _, _, .agg vs vals hr => .agg vs vals (PRels.mono hI hr)
  | _, _, .tup vs vals hr => .tup vs vals (PRels.mono hI hr)
  | _, _, .iface t v x hr => .iface t v x (PRel.mono hI hr)
theorem PRels.mono (hI : ∀ b, I b → I' b ∧ w'.heap[b]? = w.heap[b]?) : ∀ {vs : List V} {xs : List Value}, PRels w I vs xs → PRels w' I' vs xs
  | _, _, .nil => .nil
  | _, _, .cons v x vs xs h hs => .cons v x vs xs (PRel.mono hI h) (PRels.mono hI hs)
end

/-- The homes of β stand in β', moved at most where the tag has grown. -/
def HomesLe (β β' : Nat → Option Home) : Prop :=
  ∀ l h, β l = some h → ∃ h', β' l = some h' ∧ h.tag ≤ h'.tag ∧ (h.tag = 0 → h'.tag = 0) ∧ (h'.tag = h.tag → h'.b = h.b ∧ h'.csz = h.csz) ∧ (h.fz = true → h' = h)

theorem HomesLe.refl (β : Nat → Option Home) : HomesLe β β := fun _ h hb => ⟨h, hb, Nat.le_refl _, id, fun _ => ⟨rfl, rfl⟩, fun _ => rfl⟩

theorem HomesLe.trans {a b c : Nat → Option Home} (h : HomesLe a b) (k : HomesLe b c) : HomesLe a c := by
  intro l h₀ hb
  obtain ⟨h₁, e₁, t₁, z₁, m₁, f₁⟩ := h l h₀ hb
  obtain ⟨h₂, e₂, t₂, z₂, m₂, f₂⟩ := k l h₁ e₁
  refine ⟨h₂, e₂, Nat.le_trans t₁ t₂, fun z => z₂ (z₁ z), fun ht => ?_, fun f => ?_⟩
  · have e : h₁.tag = h₀.tag := by omega
    have e' : h₂.tag = h₁.tag := by omega
    exact ⟨(m₂ e').1.trans (m₁ e).1, (m₂ e').2.trans (m₁ e).2⟩
  · have := f₁ f; subst this; exact f₂ f

mutual
theorem VRel.mono (hH : HomesLe G.β G'.β) (hI : ∀ b, G.I b → G'.I b ∧ w'.heap[b]? = w.heap[b]?) : ∀ {v : V} {x : Value}, VRel fid G w v x → VRel fid G' w' v x
  | _, _, .p v x h => .p v x (PRel.mono hI h)
  | _, _, .ptr l o h hb ht => by
    obtain ⟨h', e, -, z, m, -⟩ := hH l h hb
    have := (m ((z ht).trans ht.symm)).1
    rw [← this]; exact .ptr l o h' e (z ht)
  | _, _, .eptr l es i f tag h a hb hle ha => by
    obtain ⟨h', e, t, z, m, -⟩ := hH l h hb
    refine .eptr l es i f tag h' a e (Nat.le_trans hle t) (fun hx => ?_)
    have ht : h'.tag = h.tag := by omega
    rw [(m ht).1]; exact ha (by omega)
  | _, _, .pin vs f b o vals h hc hr => .pin vs f b o vals (hI b h).1 (hc.keep (hI b h).2) (PRels.mono hI hr)
  | _, _, .sref l es off len tag h a n cap hb hle ha => by
    obtain ⟨h', e, t, z, m, -⟩ := hH l h hb
    refine .sref l es off len tag h' a n cap e (Nat.le_trans hle t) (fun hx => ?_)
    have ht : h'.tag = h.tag := by omega
    rw [(m ht).1, (m ht).2]; exact ha (by omega)
  | _, _, .map l h hb ht => by
    obtain ⟨h', e, -, z, m, -⟩ := hH l h hb
    have := (m ((z ht).trans ht.symm)).1
    rw [← this]; exact .map l h' e (z ht)
  | _, _, .fn i fs cs xs ys hf hc => .fn i fs cs xs ys (VRels.mono hH hI hf) (VRels.mono hH hI hc)
  | _, _, .yield l h hb ht => by
    obtain ⟨h', e, -, z, m, -⟩ := hH l h hb
    have := (m ((z ht).trans ht.symm)).1
    rw [← this]; exact .yield l h' e (z ht)
  | _, _, .agg vs vals hr => .agg vs vals (VRels.mono hH hI hr)
  | _, _, .tup vs vals hr => .tup vs vals (VRels.mono hH hI hr)
  | _, _, .iface t v x hr => .iface t v x (VRel.mono hH hI hr)
  | _, _, .undef x => .undef x
theorem VRels.mono (hH : HomesLe G.β G'.β) (hI : ∀ b, G.I b → G'.I b ∧ w'.heap[b]? = w.heap[b]?) : ∀ {vs : List V} {xs : List Value}, VRels fid G w vs xs → VRels fid G' w' vs xs
  | _, _, .nil => .nil
  | _, _, .cons v x vs xs h hs => .cons v x vs xs (VRel.mono hH hI h) (VRels.mono hH hI hs)
end

mutual
/-- What is old lives on under fewer homes. -/
theorem VRel.restrict {n : Nat} (hH : ∀ l h, l < n → G.β l = some h → ∃ h', G'.β l = some h' ∧ h' = h) (hI : ∀ b, G.I b → G'.I b ∧ w'.heap[b]? = w.heap[b]?) :
    ∀ {v : V} {x : Value}, VRel fid G w v x → old n v = true ∨ (isP v = true) → VRel fid G' w' v x
  | _, _, .p v x h, _ => .p v x (PRel.mono hI h)
  | _, _, .ptr l o h hb ht, ho => by
    obtain ⟨h', e, rfl⟩ := hH l h (by simpa [old, isP] using ho) hb
    exact .ptr l o _ e ht
  | _, _, .eptr l es i f tag h a hb hle ha, ho => by
    obtain ⟨h', e, rfl⟩ := hH l h (by simpa [old, isP] using ho) hb
    exact .eptr l es i f tag _ a e hle ha
  | _, _, .pin vs f b o vals h hc hr, _ => .pin vs f b o vals (hI b h).1 (hc.keep (hI b h).2) (PRels.mono hI hr)
  | _, _, .sref l es off len tag h a n cap hb hle ha, ho => by
    obtain ⟨h', e, rfl⟩ := hH l h (by simpa [old, isP] using ho) hb
    exact .sref l es off len tag _ a n cap e hle ha
  | _, _, .map l h hb ht, ho => by
    obtain ⟨h', e, rfl⟩ := hH l h (by simpa [old, isP] using ho) hb
    exact .map l _ e ht
  | _, _, .fn i fs cs xs ys hf hc, ho => by
    simp only [old, isP, Bool.and_eq_true, Bool.false_eq_true, or_false] at ho
    exact .fn i fs cs xs ys (VRels.restrict hH hI hf (.inl ho.1)) (VRels.restrict hH hI hc (.inl ho.2))
  | _, _, .yield l h hb ht, ho => by
    obtain ⟨h', e, rfl⟩ := hH l h (by simpa [old, isP] using ho) hb
    exact .yield l _ e ht
  | _, _, .agg vs vals hr, ho => .agg vs vals (VRels.restrict hH hI hr (by simpa [old, isP] using ho))
  | _, _, .tup vs vals hr, ho => .tup vs vals (VRels.restrict hH hI hr (by simpa [old, isP] using ho))
  | _, _, .iface t v x hr, ho => .iface t v x (VRel.restrict hH hI hr (by simpa [old, isP] using ho))
  | _, _, .undef x, _ => .undef x
theorem VRels.restrict {n : Nat} (hH : ∀ l h, l < n → G.β l = some h → ∃ h', G'.β l = some h' ∧ h' = h) (hI : ∀ b, G.I b → G'.I b ∧ w'.heap[b]? = w.heap[b]?) :
    ∀ {vs : List V} {xs : List Value}, VRels fid G w vs xs → olds n vs = true ∨ isPs vs = true → VRels fid G' w' vs xs
  | _, _, .nil, _ => .nil
  | _, _, .cons v x vs xs h hs, ho => by
    have h1 : old n v = true ∨ isP v = true := by rcases ho with ho | ho <;> simp_all [olds, isPs]
    have h2 : olds n vs = true ∨ isPs vs = true := by rcases ho with ho | ho <;> simp_all [olds, isPs]
    exact .cons v x vs xs (VRel.restrict hH hI h h1) (VRels.restrict hH hI hs h2)
end

mutual
theorem VRel.toP : ∀ {v : V} {x : Value}, VRel fid G w v x → isP v = true → PRel w G.I v x
  | _, _, .p v x h, _ => h
  | _, _, .agg vs vals hr, ho => .agg vs vals (VRels.toP hr (by simpa [isP] using ho))
  | _, _, .tup vs vals hr, ho => .tup vs vals (VRels.toP hr (by simpa [isP] using ho))
  | _, _, .iface t v x hr, ho => .iface t v x (VRel.toP hr (by simpa [isP] using ho))
  | _, _, .ptr .., ho | _, _, .eptr .., ho | _, _, .pin .., ho | _, _, .sref .., ho | _, _, .map .., ho | _, _, .fn .., ho | _, _, .yield .., ho | _, _, .undef .., ho => by simp [isP] at ho
theorem VRels.toP : ∀ {vs : List V} {xs : List Value}, VRels fid G w vs xs → isPs vs = true → PRels w G.I vs xs
  | _, _, .nil, _ => .nil
  | _, _, .cons v x vs xs h hs, ho => by
    simp only [isPs, Bool.and_eq_true] at ho
    exact .cons v x vs xs (VRel.toP h ho.1) (VRels.toP hs ho.2)
end

theorem PRels.toV : ∀ {vs : List V} {xs : List Value}, PRels w G.I vs xs → VRels fid G w vs xs
  | _, _, .nil => .nil
  | _, _, .cons v x vs xs h hs => .cons v x vs xs (.p v x h) (PRels.toV hs)

mutual
/-- What is flat stands under whatever homes, in whatever world. -/
theorem PRel.flat : ∀ {v : V} {x : Value}, PRel w I v x → Abs.flat v = true → PRel w' I' v x
  | _, _, .bool b, _ => .bool b
  | _, _, .int k n, _ => .int k n
  | _, _, .str s, _ => .str s
  | _, _, .nil0, _ => .nil0
  | _, _, .emp a, _ => .emp a
  | _, _, .nilp, _ => .nilp
  | _, _, .nilm, _ => .nilm
  | _, _, .nilf, _ => .nilf
  | _, _, .nili, _ => .nili
  | _, _, .agg vs vals hr, h => .agg vs vals (PRels.flat hr (by simpa [Abs.flat] using h))
  | _, _, .tup vs vals hr, h => .tup vs vals (PRels.flat hr (by simpa [Abs.flat] using h))
  | _, _, .list0 .., h | _, _, .list .., h | _, _, .iface .., h => by simp [Abs.flat] at h
theorem PRels.flat : ∀ {vs : List V} {xs : List Value}, PRels w I vs xs → flats vs = true → PRels w' I' vs xs
  | _, _, .nil, _ => .nil
  | _, _, .cons v x vs xs h hs, ho => by
    simp only [flats, Bool.and_eq_true] at ho
    exact .cons v x vs xs (PRel.flat h ho.1) (PRels.flat hs ho.2)
end
mutual
theorem flat_isP : ∀ {v : V}, Abs.flat v = true → isP v = true
  | .bool _, _ | .int _ _, _ | .str _, _ | .nil0, _ | .emp, _ | .nilp, _ | .nilm, _ | .nilf, _ | .nili, _ => rfl
  | .agg vs, h => by simp only [isP]; exact flats_isPs (by simpa [Abs.flat] using h)
  | .tup vs, h => by simp only [isP]; exact flats_isPs (by simpa [Abs.flat] using h)
  | .list .., h | .ptr .., h | .eptr .., h | .pin .., h | .sref .., h | .map .., h | .fn .., h | .yield .., h | .iface .., h | .undef, h => by simp [Abs.flat] at h
theorem flats_isPs : ∀ {vs : List V}, flats vs = true → isPs vs = true
  | [], _ => rfl
  | v :: vs, h => by
    simp only [flats, Bool.and_eq_true] at h
    simp only [isPs, Bool.and_eq_true]
    exact ⟨flat_isP h.1, flats_isPs h.2⟩
end
theorem VRel.flat {v : V} {x : Value} (h : VRel fid G w v x) (hf : Abs.flat v = true) : VRel fid G' w' v x := .p _ _ ((h.toP (flat_isP hf)).flat hf)

/-! ### lists -/

theorem VRels.length : ∀ {vs : List V} {xs : List Value}, VRels fid G w vs xs → xs.length = vs.length
  | _, _, .nil => rfl
  | _, _, .cons _ _ _ _ _ hs => by simp [VRels.length hs]

theorem VRels.get : ∀ {vs : List V} {xs : List Value}, VRels fid G w vs xs → ∀ {i : Nat} {v : V}, vs[i]? = some v → ∃ x, xs[i]? = some x ∧ VRel fid G w v x
  | _, _, .nil, i, v, h => by simp at h
  | _, _, .cons v x vs xs h hs, 0, u, e => by simp at e; subst e; exact ⟨x, by simp, h⟩
  | _, _, .cons v x vs xs h hs, i + 1, u, e => by simpa using VRels.get hs (by simpa using e)

theorem VRels.append : ∀ {vs us : List V} {xs ys : List Value}, VRels fid G w vs xs → VRels fid G w us ys → VRels fid G w (vs ++ us) (xs ++ ys)
  | _, _, _, _, .nil, k => k
  | _, _, _, _, .cons v x vs xs h hs, k => .cons v x _ _ h (VRels.append hs k)

theorem VRels.split : ∀ {vs us : List V} {zs : List Value}, VRels fid G w (vs ++ us) zs → ∃ xs ys, zs = xs ++ ys ∧ VRels fid G w vs xs ∧ VRels fid G w us ys
  | [], us, zs, h => ⟨[], zs, rfl, .nil, h⟩
  | v :: vs, us, _, .cons _ x _ xs h hs => by
    obtain ⟨as, bs, rfl, h1, h2⟩ := VRels.split (vs := vs) hs
    exact ⟨x :: as, bs, rfl, .cons v x vs as h h1, h2⟩

theorem VRels.set : ∀ {vs : List V} {xs : List Value}, VRels fid G w vs xs → ∀ (i : Nat) {v : V} {x : Value}, VRel fid G w v x → VRels fid G w (vs.set i v) (xs.set i x)
  | _, _, .nil, _, _, _, _ => .nil
  | _, _, .cons v x vs xs h hs, 0, u, y, k => .cons u y vs xs k hs
  | _, _, .cons v x vs xs h hs, i + 1, u, y, k => .cons v x _ _ h (VRels.set hs i k)

theorem VRels.drop : ∀ {vs : List V} {xs : List Value}, VRels fid G w vs xs → ∀ (n : Nat), VRels fid G w (vs.drop n) (xs.drop n)
  | _, _, h, 0 => by simpa using h
  | _, _, .nil, n + 1 => .nil
  | _, _, .cons v x vs xs h hs, n + 1 => by simpa using VRels.drop hs n

theorem VRels.take : ∀ {vs : List V} {xs : List Value}, VRels fid G w vs xs → ∀ (n : Nat), VRels fid G w (vs.take n) (xs.take n)
  | _, _, h, 0 => by simpa using VRels.nil
  | _, _, .nil, n + 1 => .nil
  | _, _, .cons v x vs xs h hs, n + 1 => .cons v x _ _ h (VRels.take hs n)

theorem VRels.mem_of_forall {vs : List V} {xs : List Value} (hl : xs.length = vs.length) (h : ∀ (i : Nat) v x, vs[i]? = some v → xs[i]? = some x → VRel fid G w v x) : VRels fid G w vs xs := by
  induction vs generalizing xs with
  | nil => cases xs with
    | nil => exact .nil
    | cons => simp at hl
  | cons v vs ih => cases xs with
    | nil => simp at hl
    | cons x xs => exact .cons v x vs xs (h 0 v x rfl rfl) (ih (by simpa using hl) (fun i v x a b => h (i + 1) v x (by simpa using a) (by simpa using b)))

theorem PRels.drop : ∀ {vs : List V} {xs : List Value}, PRels w I vs xs → ∀ (n : Nat), PRels w I (vs.drop n) (xs.drop n)
  | _, _, h, 0 => by simpa using h
  | _, _, .nil, n + 1 => .nil
  | _, _, .cons _ _ _ _ _ hs, n + 1 => by simpa using PRels.drop hs n

theorem PRels.take : ∀ {vs : List V} {xs : List Value}, PRels w I vs xs → ∀ (n : Nat), PRels w I (vs.take n) (xs.take n)
  | _, _, _, 0 => by simpa using PRels.nil
  | _, _, .nil, n + 1 => .nil
  | _, _, .cons v x _ _ h hs, n + 1 => .cons v x _ _ h (PRels.take hs n)

theorem PRels.length {vs : List V} {xs : List Value} (h : PRels w I vs xs) : xs.length = vs.length := VRels.length (fid := id) (G := ⟨fun _ => none, I⟩) (PRels.toV h)

/-! ### objects -/

def pendRel : X → Option Code → Prop
  | .normal, none => True
  | .exit id, some (.exit id') => id' = id
  | .ret, some .ret => True
  | _, _ => False

def ORel (C : Ctx) (fid : Nat → Nat) (G : Gh) (w : World) (h : Home) : AObj → Prop
  | .cells vs => h.tag = 0 ∧ h.fz = false ∧ ∃ c e, w.heap[h.b]? = some (.cells c e (0, 0)) ∧ VRels fid G w vs c.toList
  | .row es ds fz => h.tag = ds.length ∧ 0 < ds.length ∧ h.fz = fz ∧ 0 < es ∧ (∀ d ∈ ds, (cellsV d).length = es) ∧
      ∃ c e vals rest, w.heap[h.b]? = some (.cells c e (0, 0)) ∧ h.csz = c.size ∧ c.toList = vals ++ rest ∧ VRels fid G w (ds.flatMap cellsV) vals
  | .map ents => h.tag = 0 ∧ h.fz = false ∧ ∃ es clk, w.heap[h.b]? = some (.map es clk) ∧
      VRels fid G w (ents.map (·.1)) (es.toList.map (·.key)) ∧ VRels fid G w (ents.map (·.2)) (es.toList.map (·.val))
  | .loop st pend env params assign body => h.tag = 0 ∧ h.fz = false ∧ ∃ L vars, w.heap[h.b]? = some (.loop L) ∧ L.state = st ∧ pendRel pend L.pending ∧
      L.params.toList = params ∧ (∀ t ∈ params, t ∈ vars ∧ t < L.tmps.size) ∧
      C.code vars L.tmps.size L.assign = some assign ∧ C.code vars L.tmps.size L.body = some body ∧ ∀ t ∈ vars, VRel fid G w (lookupE env t) (L.tmps.getD t undef)
  | .gone => h.tag = 0 ∧ h.fz = false

structure RelH (C : Ctx) (fid : Nat → Nat) (G : Gh) (H : Heap) (w : World) : Prop where
  obj : ∀ l h, G.β l = some h → ∃ o, H[l]? = some o ∧ ORel C fid G w h o
  inj : ∀ l l' h h', G.β l = some h → G.β l' = some h' → h.b = h'.b → l = l'
  blk : ∀ l h, G.β l = some h → h.b < w.heap.size
  imm : ∀ b, G.I b → b < w.heap.size ∧ ∀ l h, G.β l = some h → h.b = b → h.fz = true
  fzI : ∀ l h, G.β l = some h → h.fz = true → G.I h.b
  glob : ∀ b o, C.glob b = some o → G.I b ∧ w.heap[b]? = some o

/-- From one state to a later one; objects older than m are as they were; new objects have numbers from n on. -/
structure Ext (G : Gh) (w : World) (G' : Gh) (w' : World) (m n : Nat) : Prop where
  size : w.heap.size ≤ w'.heap.size
  os : w'.os = w.os
  tape : w'.tape = w.tape
  output : w'.output = w.output
  keep : ∀ b, b < w.heap.size → (∀ l h, G.β l = some h → h.b = b → h.fz = true ∨ l < m) → w'.heap[b]? = w.heap[b]?
  homes : HomesLe G.β G'.β
  newH : ∀ l h', G'.β l = some h' → (∃ h, G.β l = some h ∧ (h.b = h'.b ∨ w.heap.size ≤ h'.b)) ∨ (n ≤ l ∧ w.heap.size ≤ h'.b)
  imm : ∀ b, G.I b → G'.I b
  newI : ∀ b, G'.I b → G.I b ∨ w.heap.size ≤ b ∨ ∃ l h, G.β l = some h ∧ h.b = b

theorem Ext.newH' {m n : Nat} (h : Ext G w G' w' m n) (l : Nat) (h' : Home) (e : G'.β l = some h') : (∃ h, G.β l = some h ∧ h.b = h'.b) ∨ w.heap.size ≤ h'.b := by
  rcases h.newH l h' e with ⟨h0, e0, q | q⟩ | ⟨_, q⟩
  · exact .inl ⟨h0, e0, q⟩
  · exact .inr q
  · exact .inr q

theorem Ext.refl (G : Gh) (w : World) (m n : Nat) : Ext G w G w m n :=
  ⟨Nat.le_refl _, rfl, rfl, rfl, fun _ _ _ => rfl, .refl _, fun _ h hb => .inl ⟨h, hb, .inl rfl⟩, fun _ h => h, fun _ h => .inl h⟩

theorem Ext.le {m m' n n' : Nat} (h : Ext G w G' w' m n) (hm : m' ≤ m) (hn : n' ≤ n) : Ext G w G' w' m' n' :=
  { h with keep := fun b hb k => h.keep b hb fun l x e1 e2 => (k l x e1 e2).imp id fun q => Nat.lt_of_lt_of_le q hm
           newH := fun l h' e => (h.newH l h' e).imp id fun q => ⟨Nat.le_trans hn q.1, q.2⟩ }

theorem Ext.trans {G'' : Gh} {w'' : World} {m n : Nat} (h : Ext G w G' w' m n) (k : Ext G' w' G'' w'' m n) : Ext G w G'' w'' m n where
  size := Nat.le_trans h.size k.size
  os := k.os.trans h.os
  tape := k.tape.trans h.tape
  output := k.output.trans h.output
  keep b hb hk := by
    rw [k.keep b (Nat.lt_of_lt_of_le hb h.size) ?_, h.keep b hb hk]
    intro l h1 e1 e2
    rcases h.newH' l h1 e1 with ⟨h0, e0, eb⟩ | hn
    · rcases hk l h0 e0 (eb.trans e2) with hf | hl
      · obtain ⟨h', e', -, -, -, f'⟩ := h.homes l h0 e0
        rw [e1] at e'; cases e'
        rw [f' hf]; exact .inl hf
      · exact .inr hl
    · omega
  homes := h.homes.trans k.homes
  newH l h2 e := by
    have hs := h.size
    rcases k.newH l h2 e with ⟨h1, e1, eb⟩ | ⟨hn, hb⟩
    · rcases h.newH l h1 e1 with ⟨h0, e0, eb0⟩ | ⟨hn, hb⟩
      · refine .inl ⟨h0, e0, ?_⟩
        rcases eb with eb | eb <;> rcases eb0 with eb0 | eb0
        · exact .inl (eb0.trans eb)
        · exact .inr (by omega)
        · exact .inr (by omega)
        · exact .inr (by omega)
      · exact .inr ⟨hn, by rcases eb with eb | eb <;> omega⟩
    · exact .inr ⟨hn, by omega⟩
  imm b hb := k.imm b (h.imm b hb)
  newI b hb := by
    rcases k.newI b hb with h1 | h1 | ⟨l, h1, e1, eb⟩
    · exact h.newI b h1
    · exact .inr (.inl (Nat.le_trans h.size h1))
    · rcases h.newH' l h1 e1 with ⟨h0, e0, eb0⟩ | hn
      · exact .inr (.inr ⟨l, h0, e0, eb0.trans eb⟩)
      · exact .inr (.inl (by omega))

theorem RelH.keepI {C : Ctx} {H : Heap} {m n : Nat} (hR : RelH C fid G H w) (h : Ext G w G' w' m n) : ∀ b, G.I b → G'.I b ∧ w'.heap[b]? = w.heap[b]? := fun b hb =>
  ⟨h.imm b hb, h.keep b (hR.imm b hb).1 fun l x e1 e2 => .inl ((hR.imm b hb).2 l x e1 e2)⟩

theorem VRel.ext {C : Ctx} {H : Heap} {m n : Nat} (hR : RelH C fid G H w) (h : Ext G w G' w' m n) {v : V} {x : Value} (k : VRel fid G w v x) : VRel fid G' w' v x :=
  k.mono h.homes (hR.keepI h)
theorem VRels.ext {C : Ctx} {H : Heap} {m n : Nat} (hR : RelH C fid G H w) (h : Ext G w G' w' m n) {v : List V} {x : List Value} (k : VRels fid G w v x) : VRels fid G' w' v x :=
  k.mono h.homes (hR.keepI h)

/-- An object whose block, and whose home, are as they were. -/
theorem ORel.mono {C : Ctx} (hH : HomesLe G.β G'.β) (hI : ∀ b, G.I b → G'.I b ∧ w'.heap[b]? = w.heap[b]?) {h : Home} (hb : w'.heap[h.b]? = w.heap[h.b]?) : ∀ {o : AObj}, ORel C fid G w h o → ORel C fid G' w' h o
  | .cells vs, ⟨a, b, c, e, hc, hr⟩ => ⟨a, b, c, e, by rw [hb]; exact hc, hr.mono hH hI⟩
  | .row es ds fz, ⟨a, b, c, d, u, cc, e, vals, rest, hc, hs, hl, hr⟩ => ⟨a, b, c, d, u, cc, e, vals, rest, by rw [hb]; exact hc, hs, hl, hr.mono hH hI⟩
  | .map ents, ⟨a, b, es, clk, hc, hk, hv⟩ => ⟨a, b, es, clk, by rw [hb]; exact hc, hk.mono hH hI, hv.mono hH hI⟩
  | .loop .., ⟨a, b, L, vars, hc, hs, hp, hps, hin, ha, hbd, he⟩ => ⟨a, b, L, vars, by rw [hb]; exact hc, hs, hp, hps, hin, ha, hbd, fun t ht => (he t ht).mono hH hI⟩
  | .gone, h => h

end Go.Abs
/- How the relation between heap and memory lives on: a new object, a written object, a moved row, a frozen row. -/
namespace Go.Abs
open Go
variable {C : Ctx} {fid : Nat → Nat} {w w' : World} {G G' : Gh} {H : Heap}

def upd (β : Nat → Option Home) (l : Nat) (h : Home) : Nat → Option Home := fun x => if x = l then some h else β x

theorem upd_same (β : Nat → Option Home) (l : Nat) (h : Home) : upd β l h l = some h := by simp [upd]
theorem upd_other {β : Nat → Option Home} {l x : Nat} {h : Home} (hx : x ≠ l) : upd β l h x = β x := by simp [upd, hx]

theorem RelH.lt (hR : RelH C fid G H w) {l : Nat} {h : Home} (hb : G.β l = some h) : l < H.length := by
  obtain ⟨o, ho, -⟩ := hR.obj l h hb
  rcases Nat.lt_or_ge l H.length with h' | h'
  · exact h'
  · simp [List.getElem?_eq_none h'] at ho

theorem RelH.none (hR : RelH C fid G H w) {l : Nat} (hl : H.length ≤ l) : G.β l = none := by
  cases hb : G.β l with
  | none => rfl
  | some h => exact absurd (hR.lt hb) (by omega)

theorem alloc_old {o : Obj} {b : Nat} (hb : b < w.heap.size) : (w.alloc o).heap[b]? = w.heap[b]? := by
  show (w.heap.push o)[b]? = _
  rw [Array.getElem?_push, if_neg (by omega)]
theorem alloc_new (w : World) (o : Obj) : (w.alloc o).heap[w.heap.size]? = some o := by
  show (w.heap.push o)[_]? = _
  simp

theorem homes_upd_new {l : Nat} (hn : G.β l = none) (h : Home) : HomesLe G.β (upd G.β l h) := fun x h0 hb => by
  have : x ≠ l := fun e => by subst e; rw [hn] at hb; cases hb
  exact ⟨h0, by rw [upd_other this]; exact hb, Nat.le_refl _, id, fun _ => ⟨rfl, rfl⟩, fun _ => rfl⟩

/-- A world whose heap is the same. -/
theorem RelH.sameHeap (hR : RelH C fid G H w) (h : w'.heap = w.heap) : RelH C fid G H w' where
  obj l x hb := by
    obtain ⟨o, ho, hr⟩ := hR.obj l x hb
    exact ⟨o, ho, hr.mono (.refl _) (fun b hb => ⟨hb, by rw [h]⟩) (by rw [h])⟩
  inj := hR.inj
  blk l x hb := by rw [h]; exact hR.blk l x hb
  imm b hb := by rw [h]; exact hR.imm b hb
  fzI := hR.fzI
  glob b o hg := by rw [h]; exact hR.glob b o hg

theorem Ext.sameHeap (h : w'.heap = w.heap) (ho : w'.os = w.os) (ht : w'.tape = w.tape) (hp : w'.output = w.output) (m n : Nat) : Ext G w G w' m n :=
  ⟨by rw [h]; exact Nat.le_refl _, ho, ht, hp, fun _ _ _ => by rw [h], .refl _, fun _ h hb => .inl ⟨h, hb, .inl rfl⟩, fun _ h => h, fun _ h => .inl h⟩

/-- A new object, in a new block. -/
theorem RelH.push (hR : RelH C fid G H w) (o : AObj) (ob : Obj) (tag csz : Nat)
    (ho : ORel C fid ⟨upd G.β H.length ⟨w.heap.size, tag, csz, false⟩, G.I⟩ (w.alloc ob) ⟨w.heap.size, tag, csz, false⟩ o) :
    RelH C fid ⟨upd G.β H.length ⟨w.heap.size, tag, csz, false⟩, G.I⟩ (H ++ [o]) (w.alloc ob) := by
  have hn := hR.none (Nat.le_refl H.length)
  have hle := homes_upd_new hn ⟨w.heap.size, tag, csz, false⟩
  refine ⟨fun l h hb => ?_, fun l l' h h' e e' q => ?_, fun l h hb => ?_, fun b hb => ?_, fun l h hb hf => ?_, fun b o hg => ⟨(hR.glob b o hg).1, by rw [alloc_old (hR.imm b (hR.glob b o hg).1).1]; exact (hR.glob b o hg).2⟩⟩
  · by_cases hl : l = H.length
    · subst hl
      simp only [upd_same] at hb; cases hb
      exact ⟨o, by simp, ho⟩
    · simp only [upd_other hl] at hb
      obtain ⟨o', e', hr⟩ := hR.obj l h hb
      have := hR.lt hb
      refine ⟨o', by rw [List.getElem?_append_left this]; exact e', hr.mono (G' := ⟨upd G.β H.length _, G.I⟩) hle (fun b hb => ⟨hb, alloc_old (hR.imm b hb).1⟩) (alloc_old (hR.blk l h hb))⟩
  · by_cases hl : l = H.length <;> by_cases hl' : l' = H.length
    · rw [hl, hl']
    · subst hl; simp only [upd_same] at e; cases e
      simp only [upd_other hl'] at e'
      have := hR.blk l' h' e'; simp only at q; omega
    · subst hl'; simp only [upd_same] at e'; cases e'
      simp only [upd_other hl] at e
      have := hR.blk l h e; simp only at q; omega
    · simp only [upd_other hl] at e; simp only [upd_other hl'] at e'
      exact hR.inj l l' h h' e e' q
  · rw [World.size_alloc]
    by_cases hl : l = H.length
    · subst hl; simp only [upd_same] at hb; cases hb; simp
    · simp only [upd_other hl] at hb; have := hR.blk l h hb; omega
  · have hi := hR.imm b hb
    refine ⟨by rw [World.size_alloc]; omega, fun l h e q => ?_⟩
    by_cases hl : l = H.length
    · subst hl; simp only [upd_same] at e; cases e; simp only at q; omega
    · simp only [upd_other hl] at e; exact hi.2 l h e q
  · by_cases hl : l = H.length
    · subst hl; simp only [upd_same] at hb; cases hb; cases hf
    · simp only [upd_other hl] at hb; exact hR.fzI l h hb hf

theorem Ext.push (hR : RelH C fid G H w) (ob : Obj) (tag csz m : Nat) :
    Ext G w ⟨upd G.β H.length ⟨w.heap.size, tag, csz, false⟩, G.I⟩ (w.alloc ob) m H.length where
  size := by simp
  os := rfl
  tape := rfl
  output := rfl
  keep b hb _ := alloc_old hb
  homes := homes_upd_new (hR.none (Nat.le_refl _)) _
  newH l h hb := by
    by_cases hl : l = H.length
    · subst hl; simp only [upd_same] at hb; cases hb; exact .inr ⟨Nat.le_refl _, Nat.le_refl _⟩
    · simp only [upd_other hl] at hb; exact .inl ⟨h, hb, .inl rfl⟩
  imm _ h := h
  newI _ h := .inl h

/-- An object is written where it lies. -/
theorem RelH.write (hR : RelH C fid G H w) {l : Nat} {h h' : Home} (hb : G.β l = some h) (hf : h.fz = false) (hb' : h'.b = h.b) (hf' : h'.fz = false)
    (htag : h.tag ≤ h'.tag) (hz : h.tag = 0 → h'.tag = 0) (hcs : h'.csz = h.csz) (hs : w'.heap.size = w.heap.size)
    (hkeep : ∀ b, b ≠ h.b → w'.heap[b]? = w.heap[b]?) (o : AObj) (ho : ORel C fid ⟨upd G.β l h', G.I⟩ w' h' o) :
    RelH C fid ⟨upd G.β l h', G.I⟩ (H.set l o) w' := by
  have hlt := hR.lt hb
  have hni : ∀ b, G.I b → b ≠ h.b := fun b hi e => by have := (hR.imm b hi).2 l h hb e.symm; rw [hf] at this; cases this
  have hle : HomesLe G.β (upd G.β l h') := fun x h0 e => by
    by_cases hx : x = l
    · subst hx; rw [hb] at e; cases e
      exact ⟨h', upd_same _ _ _, htag, hz, fun _ => ⟨hb', hcs⟩, fun q => by rw [hf] at q; cases q⟩
    · exact ⟨h0, by rw [upd_other hx]; exact e, Nat.le_refl _, id, fun _ => ⟨rfl, rfl⟩, fun _ => rfl⟩
  refine ⟨fun x h0 e => ?_, fun x y h1 h2 e1 e2 q => ?_, fun x h0 e => ?_, fun b hi => ?_, fun x h0 e q => ?_, fun b o hg => ⟨(hR.glob b o hg).1, by rw [hkeep b (hni b (hR.glob b o hg).1)]; exact (hR.glob b o hg).2⟩⟩
  · by_cases hx : x = l
    · subst hx; simp only [upd_same] at e; cases e
      exact ⟨o, by simp [hlt], ho⟩
    · simp only [upd_other hx] at e
      obtain ⟨o', e', hr⟩ := hR.obj x h0 e
      have hne : h0.b ≠ h.b := fun q => hx (hR.inj x l h0 h e hb q)
      exact ⟨o', by rw [List.getElem?_set_ne (Ne.symm hx)]; exact e', hr.mono (G' := ⟨upd G.β l _, G.I⟩) hle (fun b hi => ⟨hi, hkeep b (hni b hi)⟩) (hkeep _ hne)⟩
  · by_cases hx : x = l <;> by_cases hy : y = l
    · rw [hx, hy]
    · subst hx; simp only [upd_same] at e1; cases e1; simp only [upd_other hy] at e2
      exact hR.inj x y h h2 hb e2 (hb' ▸ q)
    · subst hy; simp only [upd_same] at e2; cases e2; simp only [upd_other hx] at e1
      exact hR.inj x y h1 h e1 hb (hb' ▸ q)
    · simp only [upd_other hx] at e1; simp only [upd_other hy] at e2
      exact hR.inj x y h1 h2 e1 e2 q
  · rw [hs]
    by_cases hx : x = l
    · subst hx; simp only [upd_same] at e; cases e; rw [hb']; exact hR.blk x h hb
    · simp only [upd_other hx] at e; exact hR.blk x h0 e
  · refine ⟨by rw [hs]; exact (hR.imm b hi).1, fun x h0 e q => ?_⟩
    by_cases hx : x = l
    · subst hx; simp only [upd_same] at e; cases e
      exact absurd (q.symm.trans hb') (hni b hi)
    · simp only [upd_other hx] at e; exact (hR.imm b hi).2 x h0 e q
  · by_cases hx : x = l
    · subst hx; simp only [upd_same] at e; cases e; rw [hf'] at q; cases q
    · simp only [upd_other hx] at e; exact hR.fzI x h0 e q

theorem Ext.write (_hR : RelH C fid G H w) {l : Nat} {h h' : Home} (hb : G.β l = some h) (hf : h.fz = false) (hb' : h'.b = h.b)
    (htag : h.tag ≤ h'.tag) (hz : h.tag = 0 → h'.tag = 0) (hcs : h'.csz = h.csz) (hs : w'.heap.size = w.heap.size)
    (hkeep : ∀ b, b ≠ h.b → w'.heap[b]? = w.heap[b]?) (hos : w'.os = w.os) (ht : w'.tape = w.tape) (hp : w'.output = w.output) :
    Ext G w ⟨upd G.β l h', G.I⟩ w' l H.length where
  size := by rw [hs]; exact Nat.le_refl _
  os := hos
  tape := ht
  output := hp
  keep b _ k := hkeep b fun e => by
    rcases k l h hb e.symm with q | q
    · rw [hf] at q; cases q
    · omega
  homes x h0 e := by
    by_cases hx : x = l
    · subst hx; rw [hb] at e; cases e
      exact ⟨h', upd_same _ _ _, htag, hz, fun _ => ⟨hb', hcs⟩, fun q => by rw [hf] at q; cases q⟩
    · exact ⟨h0, by simp only [upd_other hx]; exact e, Nat.le_refl _, id, fun _ => ⟨rfl, rfl⟩, fun _ => rfl⟩
  newH x h0 e := by
    by_cases hx : x = l
    · subst hx; simp only [upd_same] at e; cases e; exact .inl ⟨h, hb, .inl hb'.symm⟩
    · simp only [upd_other hx] at e; exact .inl ⟨h0, e, .inl rfl⟩
  imm _ h := h
  newI _ h := .inl h

/-- A row moves into a new block. -/
theorem RelH.move (hR : RelH C fid G H w) {l : Nat} {h : Home} (hb : G.β l = some h) (hf : h.fz = false) (ob : Obj) (tag csz : Nat) (htag : h.tag < tag) (hz : h.tag ≠ 0)
    (o : AObj) (ho : ORel C fid ⟨upd G.β l ⟨w.heap.size, tag, csz, false⟩, G.I⟩ (w.alloc ob) ⟨w.heap.size, tag, csz, false⟩ o) :
    RelH C fid ⟨upd G.β l ⟨w.heap.size, tag, csz, false⟩, G.I⟩ (H.set l o) (w.alloc ob) ∧ Ext G w ⟨upd G.β l ⟨w.heap.size, tag, csz, false⟩, G.I⟩ (w.alloc ob) l H.length := by
  have hlt := hR.lt hb
  have hle : HomesLe G.β (upd G.β l ⟨w.heap.size, tag, csz, false⟩) := fun x h0 e => by
    by_cases hx : x = l
    · subst hx; rw [hb] at e; cases e
      exact ⟨_, upd_same _ _ _, Nat.le_of_lt htag, fun q => absurd q hz, fun q => by simp only at q; omega, fun q => by rw [hf] at q; cases q⟩
    · exact ⟨h0, by rw [upd_other hx]; exact e, Nat.le_refl _, id, fun _ => ⟨rfl, rfl⟩, fun _ => rfl⟩
  refine ⟨⟨fun x h0 e => ?_, fun x y h1 h2 e1 e2 q => ?_, fun x h0 e => ?_, fun b hi => ?_, fun x h0 e q => ?_, fun b o hg => ⟨(hR.glob b o hg).1, by rw [alloc_old (hR.imm b (hR.glob b o hg).1).1]; exact (hR.glob b o hg).2⟩⟩, ⟨by simp, rfl, rfl, rfl, fun b hb' _ => alloc_old hb', hle, fun x h0 e => ?_, fun _ h => h, fun _ h => .inl h⟩⟩
  · by_cases hx : x = l
    · subst hx; simp only [upd_same] at e; cases e
      exact ⟨o, by simp [hlt], ho⟩
    · simp only [upd_other hx] at e
      obtain ⟨o', e', hr⟩ := hR.obj x h0 e
      exact ⟨o', by rw [List.getElem?_set_ne (Ne.symm hx)]; exact e', hr.mono (G' := ⟨upd G.β l _, G.I⟩) hle (fun b hi => ⟨hi, alloc_old (hR.imm b hi).1⟩) (alloc_old (hR.blk x h0 e))⟩
  · by_cases hx : x = l <;> by_cases hy : y = l
    · rw [hx, hy]
    · subst hx; simp only [upd_same] at e1; cases e1; simp only [upd_other hy] at e2
      have := hR.blk y h2 e2; simp only at q; omega
    · subst hy; simp only [upd_same] at e2; cases e2; simp only [upd_other hx] at e1
      have := hR.blk x h1 e1; simp only at q; omega
    · simp only [upd_other hx] at e1; simp only [upd_other hy] at e2
      exact hR.inj x y h1 h2 e1 e2 q
  · rw [World.size_alloc]
    by_cases hx : x = l
    · subst hx; simp only [upd_same] at e; cases e; simp
    · simp only [upd_other hx] at e; have := hR.blk x h0 e; omega
  · refine ⟨by rw [World.size_alloc]; have := (hR.imm b hi).1; omega, fun x h0 e q => ?_⟩
    by_cases hx : x = l
    · subst hx; simp only [upd_same] at e; cases e
      have := (hR.imm b hi).1; simp only at q; omega
    · simp only [upd_other hx] at e; exact (hR.imm b hi).2 x h0 e q
  · by_cases hx : x = l
    · subst hx; simp only [upd_same] at e; cases e; cases q
    · simp only [upd_other hx] at e; exact hR.fzI x h0 e q
  · by_cases hx : x = l
    · subst hx; simp only [upd_same] at e; cases e; exact .inl ⟨h, hb, .inr (Nat.le_refl _)⟩
    · simp only [upd_other hx] at e; exact .inl ⟨h0, e, .inl rfl⟩

/-! ### freezing -/

theorem flat_drop {es : Nat} : ∀ {ds : List V}, (∀ d ∈ ds, (cellsV d).length = es) → ∀ (n : Nat), (ds.drop n).flatMap cellsV = (ds.flatMap cellsV).drop (n * es)
  | ds, _, 0 => by simp
  | [], _, n + 1 => by simp
  | d :: ds, h, n + 1 => by
    have h1 := h d (by simp)
    rw [List.drop_succ_cons, flat_drop (fun x hx => h x (by simp [hx])) n, List.flatMap_cons, Nat.succ_mul, Nat.add_comm, ← List.drop_drop]
    congr 1
    rw [List.drop_left' h1]

theorem flat_take {es : Nat} : ∀ {ds : List V}, (∀ d ∈ ds, (cellsV d).length = es) → ∀ (n : Nat), (ds.take n).flatMap cellsV = (ds.flatMap cellsV).take (n * es)
  | ds, _, 0 => by simp
  | [], _, n + 1 => by simp
  | d :: ds, h, n + 1 => by
    have h1 := h d (by simp)
    rw [List.take_succ_cons, List.flatMap_cons, flat_take (fun x hx => h x (by simp [hx])) n, List.flatMap_cons, Nat.succ_mul, List.take_append, h1, List.take_of_length_le (l := cellsV d) (by rw [h1]; exact Nat.le_add_left _ _), Nat.add_sub_cancel]

theorem flat_length {es : Nat} : ∀ {ds : List V}, (∀ d ∈ ds, (cellsV d).length = es) → (ds.flatMap cellsV).length = ds.length * es
  | [], _ => by simp
  | d :: ds, h => by
    rw [List.flatMap_cons, List.length_append, flat_length (fun x hx => h x (by simp [hx])), h d (by simp), List.length_cons, Nat.succ_mul, Nat.add_comm]

theorem isPs_append : ∀ (a b : List V), isPs (a ++ b) = (isPs a && isPs b)
  | [], b => by simp [isPs]
  | v :: a, b => by simp [isPs, isPs_append a b, Bool.and_assoc]

theorem isPs_cells (v : V) (h : isP v = true) : isPs (cellsV v) = true := by
  cases v <;> simp_all [cellsV, isPs, isP]

theorem isPs_flat : ∀ {ds : List V}, isPs ds = true → isPs (ds.flatMap cellsV) = true
  | [], _ => by simp [isPs]
  | d :: ds, h => by
    simp only [isPs, Bool.and_eq_true] at h
    rw [List.flatMap_cons, isPs_append, isPs_cells d h.1, isPs_flat h.2]; rfl

theorem isPs_sub : ∀ {ds : List V}, isPs ds = true → (∀ n, isPs (ds.drop n) = true) ∧ ∀ n, isPs (ds.take n) = true := by
  intro ds h
  constructor
  · intro n
    have : isPs (ds.take n ++ ds.drop n) = true := by rw [List.take_append_drop]; exact h
    rw [isPs_append, Bool.and_eq_true] at this; exact this.2
  · intro n
    have : isPs (ds.take n ++ ds.drop n) = true := by rw [List.take_append_drop]; exact h
    rw [isPs_append, Bool.and_eq_true] at this; exact this.1

theorem cell_of_cells {b o : Nat} {c : Array Value} {e : TypeId} {f : Nat × Nat} (h : w.heap[b]? = some (.cells c e f)) : w.cell? ⟨b, o, none⟩ = c[o]? := by
  simp [World.cell?, h]

theorem CellsAt.of_row {b : Nat} {c : Array Value} {e : TypeId} {f : Nat × Nat} {vals rest : List Value} (h : w.heap[b]? = some (.cells c e f)) (hc : c.toList = vals ++ rest) :
    CellsAt w b 0 vals := by
  intro j x hx
  rw [cell_of_cells h, Nat.zero_add, ← Array.getElem?_toList, hc, List.getElem?_append_left (by
    rcases Nat.lt_or_ge j vals.length with q | q
    · exact q
    · simp [List.getElem?_eq_none q] at hx)]
  exact hx

theorem CellsAt.drop {b o : Nat} {vals : List Value} (h : CellsAt w b o vals) (n : Nat) : CellsAt w b (o + n) (vals.drop n) := by
  intro j x hx
  rw [List.getElem?_drop] at hx
  rw [Nat.add_assoc]; exact h (n + j) x hx
theorem CellsAt.take {b o : Nat} {vals : List Value} (h : CellsAt w b o vals) (n : Nat) : CellsAt w b o (vals.take n) := by
  intro j x hx
  rw [List.getElem?_take] at hx
  split at hx
  · exact h j x hx
  · cases hx

/-- The list that a part of a row is, once nobody writes the row. -/
theorem list_of_row {l es : Nat} {ds : List V} {h : Home} {fz : Bool} (ho : ORel C fid G w h (.row es ds fz)) (hI : G.I h.b) (hp : isPs ds = true) {off len n cap : Nat} {a : Addr}
    (ha : a = ⟨h.b, off * es, none⟩ ∧ n = len ∧ (off + cap) * es ≤ h.csz ∧ len ≤ cap) (hl : off + len ≤ ds.length) :
    PRel w G.I (.list es ((ds.drop off).take len)) (.slice (some a) n cap) := by
  obtain ⟨-, -, -, -, hu, c, e, vals, rest, hc, -, hv, hr⟩ := ho
  obtain ⟨rfl, rfl, -, hcap⟩ := ha
  have hat := (((CellsAt.of_row hc hv).drop (off * es)).take (n * es))
  have hu' : ∀ d ∈ ds.drop off, (cellsV d).length = es := fun d hd => hu d (List.mem_of_mem_drop hd)
  have hlen : ((ds.drop off).take n).length = n := by simp; omega
  have key := PRel.list (w := w) (I := G.I) es ((ds.drop off).take n) h.b (off * es) cap ((vals.drop (off * es)).take (n * es)) hI (by simpa using hat)
    (fun d hd => hu' d (List.mem_of_mem_take hd)) (by
      rw [flat_take hu', flat_drop hu]
      exact ((hr.drop _).take _).toP ((isPs_sub ((isPs_sub (isPs_flat hp)).1 _)).2 _)) (by rw [hlen]; exact hcap)
  rwa [hlen] at key

theorem row_frozen (hR : RelH C fid G H w) {l es : Nat} {ds : List V} (hH : H[l]? = some (.row es ds false)) {h : Home} (hb : G.β l = some h) :
    let G' : Gh := ⟨upd G.β l { h with fz := true }, fun b => G.I b ∨ b = h.b⟩
    RelH C fid G' (H.set l (.row es ds true)) w ∧ Ext G w G' w l H.length ∧ ORel C fid G' w { h with fz := true } (.row es ds true) := by
  intro G'
  obtain ⟨o, ho, hr⟩ := hR.obj l h hb
  rw [hH] at ho; cases ho
  have hf : h.fz = false := hr.2.2.1
  have hle : HomesLe G.β G'.β := fun x h0 e => by
    by_cases hx : x = l
    · subst hx; rw [hb] at e; cases e
      exact ⟨_, upd_same _ _ _, Nat.le_refl _, id, fun _ => ⟨rfl, rfl⟩, fun q => by rw [hf] at q; cases q⟩
    · exact ⟨h0, by show upd _ _ _ _ = _; rw [upd_other hx]; exact e, Nat.le_refl _, id, fun _ => ⟨rfl, rfl⟩, fun _ => rfl⟩
  have hII : ∀ b, G.I b → G'.I b ∧ w.heap[b]? = w.heap[b]? := fun b hi => ⟨.inl hi, rfl⟩
  have hO : ORel C fid G' w { h with fz := true } (.row es ds true) := by
    have := ORel.mono (G' := G') hle hII rfl hr
    exact ⟨this.1, this.2.1, rfl, this.2.2.2⟩
  refine ⟨⟨fun x h0 e => ?_, fun x y h1 h2 e1 e2 q => ?_, fun x h0 e => ?_, fun b hi => ?_, fun x h0 e q => ?_, fun b o hg => ⟨.inl (hR.glob b o hg).1, (hR.glob b o hg).2⟩⟩, ⟨Nat.le_refl _, rfl, rfl, rfl, fun _ _ _ => rfl, hle, fun x h0 e => ?_, fun _ h => .inl h, fun b hi => ?_⟩, hO⟩
  · by_cases hx : x = l
    · subst hx; rw [show G'.β = upd _ _ _ from rfl, upd_same] at e; cases e
      exact ⟨_, by simp [hR.lt hb], hO⟩
    · rw [show G'.β = upd _ _ _ from rfl, upd_other hx] at e
      obtain ⟨o', e', hr'⟩ := hR.obj x h0 e
      exact ⟨o', by rw [List.getElem?_set_ne (Ne.symm hx)]; exact e', hr'.mono hle hII rfl⟩
  · have inj' : ∀ z h3, G'.β z = some h3 → ∃ h4, G.β z = some h4 ∧ h4.b = h3.b := fun z h3 e => by
      by_cases hz : z = l
      · subst hz; rw [show G'.β = upd _ _ _ from rfl, upd_same] at e; cases e; exact ⟨h, hb, rfl⟩
      · rw [show G'.β = upd _ _ _ from rfl, upd_other hz] at e; exact ⟨h3, e, rfl⟩
    obtain ⟨h4, e4, b4⟩ := inj' x h1 e1
    obtain ⟨h5, e5, b5⟩ := inj' y h2 e2
    exact hR.inj x y h4 h5 e4 e5 (b4.trans (q.trans b5.symm))
  · by_cases hx : x = l
    · subst hx; rw [show G'.β = upd _ _ _ from rfl, upd_same] at e; cases e; exact hR.blk x h hb
    · rw [show G'.β = upd _ _ _ from rfl, upd_other hx] at e; exact hR.blk x h0 e
  · rcases hi with hi | rfl
    · refine ⟨(hR.imm b hi).1, fun x h0 e q => ?_⟩
      by_cases hx : x = l
      · subst hx; rw [show G'.β = upd _ _ _ from rfl, upd_same] at e; cases e; rfl
      · rw [show G'.β = upd _ _ _ from rfl, upd_other hx] at e; exact (hR.imm b hi).2 x h0 e q
    · refine ⟨hR.blk l h hb, fun x h0 e q => ?_⟩
      by_cases hx : x = l
      · subst hx; rw [show G'.β = upd _ _ _ from rfl, upd_same] at e; cases e; rfl
      · rw [show G'.β = upd _ _ _ from rfl, upd_other hx] at e; exact absurd (hR.inj x l h0 h e hb q) hx
  · by_cases hx : x = l
    · subst hx; rw [show G'.β = upd _ _ _ from rfl, upd_same] at e; cases e; exact .inr rfl
    · rw [show G'.β = upd _ _ _ from rfl, upd_other hx] at e; exact .inl (hR.fzI x h0 e q)
  · by_cases hx : x = l
    · subst hx; rw [show G'.β = upd _ _ _ from rfl, upd_same] at e; cases e; exact .inl ⟨h, hb, .inl rfl⟩
    · rw [show G'.β = upd _ _ _ from rfl, upd_other hx] at e; exact .inl ⟨h0, e, .inl rfl⟩
  · rcases hi with hi | rfl
    · exact .inl hi
    · exact .inr (.inr ⟨l, h, hb, rfl⟩)

/-- What freezing leaves: the world is the same. -/
structure Froze (C : Ctx) (fid : Nat → Nat) (G : Gh) (H : Heap) (w : World) (low : Nat) (G' : Gh) (H' : Heap) (low' : Nat) : Prop where
  rel : RelH C fid G' H' w
  ext : ∀ m, m ≤ low' → Ext G w G' w m H.length
  low : low' ≤ low
  len : H'.length = H.length

theorem Froze.refl (hR : RelH C fid G H w) (low : Nat) : Froze C fid G H w low G H low := ⟨hR, fun _ _ => .refl _ _ _ _, Nat.le_refl _, rfl⟩
theorem Froze.trans {G₁ G₂ : Gh} {H₁ H₂ : Heap} {low low₁ low₂ : Nat} (h : Froze C fid G H w low G₁ H₁ low₁) (k : Froze C fid G₁ H₁ w low₁ G₂ H₂ low₂) : Froze C fid G H w low G₂ H₂ low₂ :=
  ⟨k.rel, fun m hm => (h.ext m (Nat.le_trans hm k.low)).trans ((k.ext m hm).le (Nat.le_refl _) (Nat.le_of_eq h.len.symm)), Nat.le_trans k.low h.low, k.len.trans h.len⟩

theorem freeze1_sound (hR : RelH C fid G H w) {low low' : Nat} {v v' : V} {x : Value} {H' : Heap} (hv : VRel fid G w v x) (he : freeze1 H low v = some (v', H', low')) :
    ∃ G', Froze C fid G H w low G' H' low' ∧ VRel fid G' w v' x := by
  unfold freeze1 at he
  split at he
  · rename_i l es off len tag
    split at he
    · rename_i es' ds fz hl
      split at he
      · rename_i hc
        obtain ⟨rfl, ht, hle, hp⟩ := hc
        simp only [Option.some.injEq, Prod.mk.injEq] at he
        obtain ⟨rfl, rfl, rfl⟩ := he
        cases hv with
        | p _ _ h => cases h
        | sref _ _ _ _ _ h a n cap hb hle' ha =>
          obtain ⟨o, ho, hr⟩ := hR.obj l h hb
          rw [hl] at ho; cases ho
          have htag : h.tag = tag := hr.1.trans ht
          cases fz with
          | true =>
            exact ⟨G, .refl hR _, .p _ _ (list_of_row (l := l) hr (hR.fzI l h hb hr.2.2.1) hp (ha htag) hle)⟩
          | false =>
            obtain ⟨h1, h2, h3⟩ := row_frozen hR hl hb
            exact ⟨_, ⟨h1, fun m hm => h2.le (Nat.le_trans hm (Nat.min_le_right _ _)) (Nat.le_refl _), Nat.min_le_left _ _, by simp⟩, .p _ _ (list_of_row (l := l) h3 (.inr rfl) hp (ha htag) hle)⟩
      · cases he
    · cases he
  · simp only [Option.some.injEq, Prod.mk.injEq] at he
    obtain ⟨rfl, rfl, rfl⟩ := he
    exact ⟨G, .refl hR _, hv⟩

theorem freezeL_sound : ∀ {vs vs' : List V} {xs : List Value} {G : Gh} {H H' : Heap} {low low' : Nat}, RelH C fid G H w → VRels fid G w vs xs → freezeL H low vs = some (vs', H', low') →
    ∃ G', Froze C fid G H w low G' H' low' ∧ VRels fid G' w vs' xs
  | [], _, _, G, H, H', low, low', hR, .nil, he => by
    simp only [freezeL, Option.some.injEq, Prod.mk.injEq] at he
    obtain ⟨rfl, rfl, rfl⟩ := he
    exact ⟨G, .refl hR _, .nil⟩
  | v :: r, _, _, G, H, H', low, low', hR, .cons _ x _ xs hv hs, he => by
    simp only [freezeL] at he
    split at he
    · rename_i v1 H1 low1 h1
      split at he
      · rename_i r2 H2 low2 h2
        simp only [Option.some.injEq, Prod.mk.injEq] at he
        obtain ⟨rfl, rfl, rfl⟩ := he
        obtain ⟨G1, f1, k1⟩ := freeze1_sound hR hv h1
        obtain ⟨G2, f2, k2⟩ := freezeL_sound f1.rel (hs.ext hR (f1.ext 0 (Nat.zero_le _))) h2
        exact ⟨G2, f1.trans f2, .cons _ _ _ _ (k1.ext f1.rel (f2.ext 0 (Nat.zero_le _))) k2⟩
      · cases he
    · cases he

theorem VRel.aggInv {vs : List V} {x : Value} (h : VRel fid G w (.agg vs) x) : ∃ vals, x = .agg ⟨vals⟩ ∧ VRels fid G w vs vals := by
  cases h with
  | p _ _ h => cases h with | agg _ vals hr => exact ⟨vals, rfl, hr.toV⟩
  | agg _ vals hr => exact ⟨vals, rfl, hr⟩
theorem VRel.tupInv {vs : List V} {x : Value} (h : VRel fid G w (.tup vs) x) : ∃ vals, x = .tuple ⟨vals⟩ ∧ VRels fid G w vs vals := by
  cases h with
  | p _ _ h => cases h with | tup _ vals hr => exact ⟨vals, rfl, hr.toV⟩
  | tup _ vals hr => exact ⟨vals, rfl, hr⟩

theorem freezeV_sound (hR : RelH C fid G H w) {low low' : Nat} {v v' : V} {x : Value} {H' : Heap} (hv : VRel fid G w v x) (he : freezeV H low v = some (v', H', low')) :
    ∃ G', Froze C fid G H w low G' H' low' ∧ VRel fid G' w v' x := by
  unfold freezeV at he
  split at he
  · simp only [Option.some.injEq, Prod.mk.injEq] at he
    obtain ⟨rfl, rfl, rfl⟩ := he
    exact ⟨G, .refl hR _, hv⟩
  · split at he
    · rename_i vs
      split at he
      · rename_i vs' H1 low1 h1
        simp only [Option.some.injEq, Prod.mk.injEq] at he
        obtain ⟨rfl, rfl, rfl⟩ := he
        obtain ⟨vals, rfl, hr⟩ := hv.aggInv
        obtain ⟨G1, f1, k1⟩ := freezeL_sound hR hr h1
        exact ⟨G1, f1, .agg _ _ k1⟩
      · cases he
    · rename_i vs
      split at he
      · rename_i vs' H1 low1 h1
        simp only [Option.some.injEq, Prod.mk.injEq] at he
        obtain ⟨rfl, rfl, rfl⟩ := he
        obtain ⟨vals, rfl, hr⟩ := hv.tupInv
        obtain ⟨G1, f1, k1⟩ := freezeL_sound hR hr h1
        exact ⟨G1, f1, .tup _ _ k1⟩
      · cases he
    · exact freeze1_sound hR hv he

theorem freezeVs_sound : ∀ {vs vs' : List V} {xs : List Value} {G : Gh} {H H' : Heap} {low low' : Nat}, RelH C fid G H w → VRels fid G w vs xs → freezeVs H low vs = some (vs', H', low') →
    ∃ G', Froze C fid G H w low G' H' low' ∧ VRels fid G' w vs' xs
  | [], _, _, G, H, H', low, low', hR, .nil, he => by
    simp only [freezeVs, Option.some.injEq, Prod.mk.injEq] at he
    obtain ⟨rfl, rfl, rfl⟩ := he
    exact ⟨G, .refl hR _, .nil⟩
  | v :: r, _, _, G, H, H', low, low', hR, .cons _ x _ xs hv hs, he => by
    simp only [freezeVs] at he
    split at he
    · rename_i v1 H1 low1 h1
      split at he
      · rename_i r2 H2 low2 h2
        simp only [Option.some.injEq, Prod.mk.injEq] at he
        obtain ⟨rfl, rfl, rfl⟩ := he
        obtain ⟨G1, f1, k1⟩ := freezeV_sound hR hv h1
        obtain ⟨G2, f2, k2⟩ := freezeVs_sound f1.rel (hs.ext hR (f1.ext 0 (Nat.zero_le _))) h2
        exact ⟨G2, f1.trans f2, .cons _ _ _ _ (k1.ext f1.rel (f2.ext 0 (Nat.zero_le _))) k2⟩
      · cases he
    · cases he

end Go.Abs
/- Each operation: where the executor goes on, the machine goes on alike. -/
namespace Go.Abs
open Go
variable {C : Ctx} {fid : Nat → Nat} {w w' : World} {G G' : Gh} {H : Heap}

structure CtxOk (C : Ctx) (fid : Nat → Nat) : Prop where
  f : ∀ f i, C.fidx f = some i → fid i = f

mutual
theorem constV_sound {I : Nat → Prop} : ∀ (x : Value) {v : V}, constV x = some v → v = .undef ∨ PRel w I v x
  | .bool b, v, h => by simp only [constV, Option.some.injEq] at h; subst h; exact .inr (.bool b)
  | .int k n, v, h => by simp only [constV, Option.some.injEq] at h; subst h; exact .inr (.int k n)
  | .string ⟨⟨s⟩⟩, v, h => by simp only [constV, Option.some.injEq] at h; subst h; exact .inr (.str s)
  | .pointer none, v, h => by simp only [constV, Option.some.injEq] at h; subst h; exact .inr .nilp
  | .slice none 0 0, v, h => by simp only [constV, Option.some.injEq] at h; subst h; exact .inr .nil0
  | .map none, v, h => by simp only [constV, Option.some.injEq] at h; subst h; exact .inr .nilm
  | .nilFunc, v, h => by simp only [constV, Option.some.injEq] at h; subst h; exact .inr .nilf
  | .nilIface, v, h => by simp only [constV, Option.some.injEq] at h; subst h; exact .inr .nili
  | .agg ⟨vs⟩, v, h => by
    simp only [constV, Option.map_eq_some_iff] at h
    obtain ⟨us, hu, rfl⟩ := h
    exact .inr (.agg us vs (constVs_sound vs hu))
  | .tuple ⟨[]⟩, v, h => by simp only [constV, Option.some.injEq] at h; subst h; exact .inl rfl
  | .tuple ⟨_ :: _⟩, v, h => by simp [constV] at h
  | .slice none (n + 1) _, v, h => by simp [constV] at h
  | .slice none 0 (n + 1), v, h => by simp [constV] at h
  | .pointer (some _), v, h | .slice (some _) _ _, v, h | .map (some _), v, h | .float .., v, h | .complex .., v, h | .chan .., v, h | .func .., v, h | .iface .., v, h => by simp [constV] at h
theorem constVs_sound {I : Nat → Prop} : ∀ (xs : List Value) {vs : List V}, constVs xs = some vs → PRels w I vs xs
  | [], vs, h => by simp only [constVs, Option.some.injEq] at h; subst h; exact .nil
  | x :: r, vs, h => by
    simp only [constVs] at h
    split at h
    · rename_i v hv
      split at h
      · cases h
      · simp only [Option.map_eq_some_iff] at h
        obtain ⟨us, hu, rfl⟩ := h
        exact .cons v x us r ((constV_sound x hv).resolve_left (by rintro rfl; simp_all [isU])) (constVs_sound r hu)
    · cases h
end

/-- The operands' values. -/
def OpdRel (C : Ctx) (fid : Nat → Nat) (vars : List Nat) (G : Gh) (w : World) (ev : Opd → V) (ρ : Operand → Value) : Prop :=
  ∀ x ax, C.opd vars x = some ax → VRel fid G w (ev ax) (ρ x)

/-- What an operation has come to. -/
def Did (C : Ctx) (fid : Nat → Nat) (G : Gh) (H : Heap) (w : World) (low0 : Nat) (r : Result Next) (v : V) (H' : Heap) (low' : Nat) : Prop :=
  ∃ x w' G', (r = .ok (.value x) w' ∨ (r = .ok .skip w' ∧ x = undef)) ∧ RelH C fid G' H' w' ∧ (∀ m, m ≤ low' → Ext G w G' w' m H.length) ∧ VRel fid G' w' v x ∧ low' ≤ low0 ∧ H.length ≤ H'.length

theorem Did.same (hR : RelH C fid G H w) {low : Nat} {r : Result Next} {v : V} {x : Value} (hr : r = .ok (.value x) w) (hv : VRel fid G w v x) : Did C fid G H w low r v H low :=
  ⟨x, w, G, .inl hr, hR, fun _ _ => .refl _ _ _ _, hv, Nat.le_refl _, Nat.le_refl _⟩

theorem Did.alloc (hR : RelH C fid G H w) {low : Nat} {r : Result Next} {v : V} {x : Value} {o : AObj} {ob : Obj} (tag csz : Nat) (hr : r = .ok (.value x) (w.alloc ob))
    (ho : ORel C fid ⟨upd G.β H.length ⟨w.heap.size, tag, csz, false⟩, G.I⟩ (w.alloc ob) ⟨w.heap.size, tag, csz, false⟩ o)
    (hv : VRel fid ⟨upd G.β H.length ⟨w.heap.size, tag, csz, false⟩, G.I⟩ (w.alloc ob) v x) : Did C fid G H w low r v (H ++ [o]) low :=
  ⟨x, _, _, .inl hr, hR.push o ob tag csz ho, fun m _ => .push hR ob tag csz m, hv, Nat.le_refl _, by simp⟩

theorem Did.afterFreeze {low low1 : Nat} {G1 : Gh} {H1 : Heap} (f : Froze C fid G H w low G1 H1 low1) {r : Result Next} {v : V} {H' : Heap} {low' : Nat} (h : Did C fid G1 H1 w low1 r v H' low') :
    Did C fid G H w low r v H' low' := by
  obtain ⟨x, w', G', hr, hR, he, hv, hl, hn⟩ := h
  refine ⟨x, w', G', hr, hR, fun m hm => (f.ext m (Nat.le_trans hm hl)).trans ((he m hm).le (Nat.le_refl _) (Nat.le_of_eq f.len.symm)), hv, Nat.le_trans hl f.low, by have := f.len; omega⟩

section ops
variable {vars : List Nat} {ev : Opd → V} {ρ : Operand → Value} {low low' : Nat} {v : V} {H' : Heap} {pos : String} {aop : AOp} {o : Oper}

theorem opd_func (hC : CtxOk C fid) {f : FuncId} {ax : Opd} (h : C.opd vars (.func f) = some ax) {tE vE : Env} : VRel fid G w (ax.ev tE vE) (.func (.func f) #[] #[]) := by
  simp only [Ctx.opd, Option.map_eq_some_iff] at h
  obtain ⟨i, hi, rfl⟩ := h
  have := VRel.fn (fid := fid) (G := G) (w := w) i [] [] [] [] .nil .nil
  rw [hC.f f i hi] at this
  exact this

theorem VRel.boolInv {x : Value} {b : Bool} (h : VRel fid G w (.bool b) x) : x = .bool b := by
  cases h with | p _ _ h => cases h; rfl
theorem VRel.intInv {x : Value} {k : IntKind} {n : Int} (h : VRel fid G w (.int k n) x) : x = .int k n := by
  cases h with | p _ _ h => cases h; rfl
theorem VRel.strInv {x : Value} {s : List UInt8} (h : VRel fid G w (.str s) x) : x = .string ⟨⟨s⟩⟩ := by
  cases h with | p _ _ h => cases h; rfl
theorem VRel.ptrInv {x : Value} {l o : Nat} (h : VRel fid G w (.ptr l o) x) : ∃ h, G.β l = some h ∧ h.tag = 0 ∧ x = .pointer (some ⟨h.b, o, none⟩) := by
  cases h with
  | p _ _ h => cases h
  | ptr _ _ h hb ht => exact ⟨h, hb, ht, rfl⟩
theorem VRel.mapInv {x : Value} {l : Nat} (h : VRel fid G w (.map l) x) : ∃ h, G.β l = some h ∧ h.tag = 0 ∧ x = .map (some h.b) := by
  cases h with
  | p _ _ h => cases h
  | map _ h hb ht => exact ⟨h, hb, ht, rfl⟩
theorem VRel.eptrInv {x : Value} {l es i f tag : Nat} (h : VRel fid G w (.eptr l es i f tag) x) :
    ∃ h a, G.β l = some h ∧ tag ≤ h.tag ∧ (h.tag = tag → a = ⟨h.b, i * es + f, none⟩) ∧ x = .pointer (some a) := by
  cases h with
  | p _ _ h => cases h
  | eptr _ _ _ _ _ h a hb hle ha => exact ⟨h, a, hb, hle, ha, rfl⟩
theorem VRel.pinInv {x : Value} {vs : List V} {f : Nat} (h : VRel fid G w (.pin vs f) x) :
    ∃ b o vals, G.I b ∧ CellsAt w b o vals ∧ PRels w G.I vs vals ∧ x = .pointer (some ⟨b, o + f, none⟩) := by
  cases h with
  | p _ _ h => cases h
  | pin _ _ b o vals hI hc hr => exact ⟨b, o, vals, hI, hc, hr, rfl⟩
theorem VRel.srefInv {x : Value} {l es off len tag : Nat} (h : VRel fid G w (.sref l es off len tag) x) :
    ∃ h a n cap, G.β l = some h ∧ tag ≤ h.tag ∧ (h.tag = tag → a = ⟨h.b, off * es, none⟩ ∧ n = len ∧ (off + cap) * es ≤ h.csz ∧ len ≤ cap) ∧ x = .slice (some a) n cap := by
  cases h with
  | p _ _ h => cases h
  | sref _ _ _ _ _ h a n cap hb hle ha => exact ⟨h, a, n, cap, hb, hle, ha, rfl⟩
theorem VRel.fnInv {x : Value} {i : Nat} {fs cs : List V} (h : VRel fid G w (.fn i fs cs) x) :
    ∃ xs ys, VRels fid G w fs xs ∧ VRels fid G w cs ys ∧ x = .func (.func (fid i)) ⟨xs⟩ ⟨ys⟩ := by
  cases h with
  | p _ _ h => cases h
  | fn _ _ _ xs ys hf hc => exact ⟨xs, ys, hf, hc, rfl⟩
theorem VRel.yieldInv {x : Value} {l : Nat} (h : VRel fid G w (.yield l) x) : ∃ h, G.β l = some h ∧ h.tag = 0 ∧ x = .func (.yield h.b) #[] #[] := by
  cases h with
  | p _ _ h => cases h
  | yield _ h hb ht => exact ⟨h, hb, ht, rfl⟩

/-! reading -/

theorem VRels.readCells {cs : List V} {xs : List Value} (h : VRels fid G w cs xs) {o : Nat} {sh : Option Nat} {u : V} (hr : Abs.readCells cs o sh = some u) :
    match sh with
    | none => ∃ x, xs[o]? = some x ∧ VRel fid G w u x
    | some n => o + n ≤ xs.length ∧ VRel fid G w u (.agg ⟨(xs.drop o).take n⟩) := by
  cases sh with
  | none => exact h.get hr
  | some n =>
    simp only [Abs.readCells] at hr
    split at hr
    · rename_i hle
      simp only [Option.some.injEq] at hr
      subst hr
      exact ⟨by rw [h.length]; exact hle, .agg _ _ ((h.drop o).take n)⟩
    · cases hr

theorem shape_run {t : TypeId} {sh : Option Nat} (h : C.shapeOf t = some sh) :
    (∃ n, sh = some n ∧ (∀ w, (isAgg t).run C.P w = .ok true w) ∧ ∀ w, (Go.sizeOf t).run C.P w = .ok n w) ∨ (sh = none ∧ ∀ w, (isAgg t).run C.P w = .ok false w) := by
  unfold Ctx.shapeOf at h
  have key : ∀ d, C.P.underlying t = some d → ∀ w, (isAgg t).run C.P w = .ok (match d with | .struct _ | .array _ _ => true | _ => false) w := by
    intro d hd w
    unfold isAgg
    rw [Sem.run_bind, run_underlying hd]
    cases d <;> rfl
  have sz : ∀ n, C.sizeOf t = some n → ∀ w, (Go.sizeOf t).run C.P w = .ok n w := by
    intro n hn w
    simp only [Ctx.sizeOf, Option.map_eq_some_iff] at hn
    obtain ⟨i, hi, rfl⟩ := hn
    unfold Go.sizeOf
    rw [Sem.run_bind, run_typeInfo (P := C.P) w hi]; rfl
  cases hd : C.P.underlying t with
  | none => rw [hd] at h; cases h
  | some d =>
    rw [hd] at h
    have hk := key d hd
    cases d <;> simp only [Option.some.injEq, Option.map_eq_some_iff] at h <;>
      first
        | exact .inr ⟨h.symm, hk⟩
        | (obtain ⟨n, hn, rfl⟩ := h; exact .inl ⟨n, rfl, hk, sz n hn⟩)

theorem run_loadVar_at {t : TypeId} {sh : Option Nat} (h : C.shapeOf t = some sh) {b o : Nat} {cs : List V} {vals : List Value} {f : Nat} (hc : CellsAt w b o vals) (hv : VRels fid G w cs vals) {u : V}
    (hr : Abs.readCells cs f sh = some u) : ∃ x, (loadVar t ⟨b, o + f, none⟩).run C.P w = .ok x w ∧ VRel fid G w u x := by
  have hk := hv.readCells hr
  rcases shape_run h with ⟨n, rfl, ha, hs⟩ | ⟨rfl, ha⟩
  · obtain ⟨hle, hu⟩ := hk
    refine ⟨_, ?_, hu⟩
    have hcs : ∀ (j : Nat) (x : Value), ((vals.drop f).take n)[j]? = some x → w.cell? (Addr.add ⟨b, o + f, none⟩ j) = some x := by
      intro j x hx
      rw [Addr.add_lit]
      rw [List.getElem?_take] at hx
      split at hx
      · rw [List.getElem?_drop] at hx; rw [Nat.add_assoc]; exact hc _ _ hx
      · cases hx
    have hl := run_loadCells_list (P := C.P) w ⟨b, o + f, none⟩ _ hcs
    have hlen : ((vals.drop f).take n).length = n := by simp; omega
    rw [hlen] at hl
    unfold loadVar
    simp only [Sem.run_bind, ha, hs, Result.andThen_ok, if_true, hl, Sem.run_pure]
  · obtain ⟨x, hx, hu⟩ := hk
    refine ⟨x, ?_, hu⟩
    unfold loadVar
    simp only [Sem.run_bind, ha, Result.andThen_ok, Bool.false_eq_true, if_false, run_load, hc f x hx]

theorem loadA_sound (hR : RelH C fid G H w) {t : TypeId} {sh : Option Nat} (h : C.shapeOf t = some sh) {a u : V} {x : Value} (ha : VRel fid G w a x) (he : loadA H sh a = some u) :
    ∃ y, (Instr.loadAt t x).run C.P w = .ok y w ∧ VRel fid G w u y := by
  unfold loadA at he
  split at he
  · rename_i l o
    obtain ⟨h0, hb, ht, rfl⟩ := ha.ptrInv
    split at he
    · rename_i vs hl
      obtain ⟨ob, ho, hr⟩ := hR.obj l h0 hb
      rw [hl] at ho; cases ho
      obtain ⟨-, -, c, e, hc, hv⟩ := hr
      obtain ⟨y, hy, hu⟩ := run_loadVar_at (o := 0) h (CellsAt.of_row (vals := c.toList) (rest := []) hc (by simp)) hv he
      rw [Nat.zero_add] at hy
      exact ⟨y, by simp only [Instr.loadAt, Instr.sureAddr, Sem.run_bind, Sem.run_pure, Result.andThen_ok, hy], hu⟩
    · cases he
  · rename_i l es i f tag
    obtain ⟨h0, ad, hb, hle, had, rfl⟩ := ha.eptrInv
    split at he
    · rename_i es' ds fz hl
      split at he
      · rename_i hc
        obtain ⟨rfl, htag⟩ := hc
        obtain ⟨ob, ho, hr⟩ := hR.obj l h0 hb
        rw [hl] at ho; cases ho
        obtain ⟨ht, -, -, -, hu, c, e, vals, rest, hc, hcs, hv, hrel⟩ := hr
        obtain ⟨d, hd, hrd⟩ := Option.bind_eq_some_iff.1 he
        have hdl : (cellsV d).length = es' := hu d (List.mem_of_getElem? hd)
        have hrel' : VRels fid G w (cellsV d) ((vals.drop (i * es')).take es') := by
          have h1 : (ds.drop i).flatMap cellsV = (ds.flatMap cellsV).drop (i * es') := flat_drop hu i
          have h2 : ds.drop i = d :: ds.drop (i + 1) := by
            obtain ⟨hi, rfl⟩ := List.getElem?_eq_some_iff.1 hd
            exact List.drop_eq_getElem_cons hi
          have h3 := (hrel.drop (i * es')).take es'
          rw [← h1, h2, List.flatMap_cons, List.take_append, hdl, Nat.sub_self, List.take_zero, List.append_nil, List.take_of_length_le (by omega)] at h3
          exact h3
        have hat : CellsAt w h0.b (i * es') ((vals.drop (i * es')).take es') := by
          have := ((CellsAt.of_row hc hv).drop (i * es')).take es'
          rwa [Nat.zero_add] at this
        obtain ⟨y, hy, huy⟩ := run_loadVar_at h hat hrel' hrd
        rw [had (ht.trans htag)]
        exact ⟨y, by simp only [Instr.loadAt, Instr.sureAddr, Sem.run_bind, Sem.run_pure, Result.andThen_ok, hy], huy⟩
      · cases he
    · cases he
  · rename_i vs f
    obtain ⟨b, o, vals, hI, hc, hr, rfl⟩ := ha.pinInv
    obtain ⟨y, hy, hu⟩ := run_loadVar_at h hc (PRels.toV (fid := fid) hr) he
    exact ⟨y, by simp only [Instr.loadAt, Instr.sureAddr, Sem.run_bind, Sem.run_pure, Result.andThen_ok, hy], hu⟩
  · cases he

/-! writing -/

theorem oneCell_of_rel {c : V} {x : Value} (h : VRel fid G w c x) (hc : cellOk c = true) : x.oneCell' = true := by
  cases h with
  | p _ _ h => cases h <;> first | rfl | simp [cellOk] at hc
  | agg => simp [cellOk] at hc
  | tup => simp [cellOk] at hc
  | undef => simp [cellOk] at hc
  | _ => rfl

theorem oneCells_of_rel : ∀ {cs : List V} {xs : List Value}, VRels fid G w cs xs → cellsOk cs = true → ∀ x ∈ xs, x.oneCell' = true
  | _, _, .nil, _, x, hx => by simp at hx
  | _, _, .cons v y vs ys h hs, hc, x, hx => by
    simp only [cellsOk, Bool.and_eq_true] at hc
    rcases List.mem_cons.1 hx with rfl | hx
    · exact oneCell_of_rel h hc.1
    · exact oneCells_of_rel hs hc.2 x hx

theorem cells_rel {v : V} {y : Value} (h : VRel fid G w v y) (hc : cellsOk (cellsV v) = true) : VRels fid G w (cellsV v) y.cells.toList ∧ ∀ c ∈ y.cells.toList, c.oneCell' = true := by
  by_cases hv : ∃ vs, v = .agg vs
  · obtain ⟨vs, rfl⟩ := hv
    obtain ⟨vals, rfl, hr⟩ := h.aggInv
    exact ⟨hr, oneCells_of_rel hr hc⟩
  · have e : cellsV v = [v] := by
      cases v <;> first | rfl | (exfalso; exact hv ⟨_, rfl⟩)
    rw [e] at hc ⊢
    have h1 : y.oneCell' = true := oneCell_of_rel h (by simpa [cellsOk] using hc)
    have e' : y.cells = #[y] := by cases y <;> first | rfl | simp [Value.oneCell'] at h1
    rw [e']
    exact ⟨.cons _ _ _ _ h .nil, fun c hc => by simp at hc; subst hc; exact h1⟩

theorem setCells_rel : ∀ {ys : List V} {zs : List Value} {cs : List V} {xs : List Value} (o : Nat), VRels fid G w cs xs → VRels fid G w ys zs → o + ys.length ≤ cs.length →
    VRels fid G w (setCells cs o ys) (xs.take o ++ zs ++ xs.drop (o + zs.length))
  | _, _, cs, xs, o, h, .nil, _ => by simpa [setCells] using h
  | _, _, cs, xs, o, h, .cons y z ys zs hy hs, hl => by
    have hlen := h.length
    simp only [List.length_cons] at hl
    have ih := setCells_rel (o + 1) (h.set o hy) hs (by simp; omega)
    simp only [setCells]
    have e := list_seg_step xs o z zs (by have := hs.length; omega)
    rw [← List.length_cons (a := z)] at e
    rw [← e]; exact ih

theorem setCells_length : ∀ (ys cs : List V) (o : Nat), (setCells cs o ys).length = cs.length
  | [], cs, o => rfl
  | y :: ys, cs, o => by rw [setCells, setCells_length ys]; simp

theorem setRow_other {g b : Nat} (hb : b ≠ g) (c : Array Value) : (w.setRow g c).heap[b]? = w.heap[b]? := by
  unfold World.setRow
  simp only [Array.getElem?_modify]
  rw [if_neg (by omega)]

theorem setRow_size (g : Nat) (c : Array Value) : (w.setRow g c).heap.size = w.heap.size := by
  unfold World.setRow; simp

/-- A written object of cells. -/
theorem write_cells (hR : RelH C fid G H w) {l : Nat} {h : Home} {vs ys : List V} (hb : G.β l = some h) (hl : H[l]? = some (.cells vs)) {o : Nat} {zs : List Value} (hy : VRels fid G w ys zs)
    (hfit : o + ys.length ≤ vs.length) {c : Array Value} {e : TypeId} (hc : w.heap[h.b]? = some (.cells c e (0, 0))) :
    ∃ G', RelH C fid G' (H.set l (.cells (setCells vs o ys))) (w.setRow h.b (c.toList.take o ++ zs ++ c.toList.drop (o + zs.length)).toArray) ∧
      Ext G w G' (w.setRow h.b (c.toList.take o ++ zs ++ c.toList.drop (o + zs.length)).toArray) l H.length := by
  obtain ⟨ob, ho, hr⟩ := hR.obj l h hb
  rw [hl] at ho; cases ho
  obtain ⟨ht, hf, c', e', hc', hv⟩ := hr
  rw [hc] at hc'; cases hc'
  refine ⟨⟨upd G.β l h, G.I⟩, ?_, ?_⟩
  · refine RelH.write hR hb hf rfl hf (Nat.le_refl _) id rfl (setRow_size _ _) (fun b hne => setRow_other hne _) _ ?_
    refine ⟨ht, hf, _, e, setRow_heap w h.b c _ e _ hc, ?_⟩
    have hx : Ext G w ⟨upd G.β l h, G.I⟩ (w.setRow h.b (c.toList.take o ++ zs ++ c.toList.drop (o + zs.length)).toArray) l H.length :=
      Ext.write hR hb hf rfl (Nat.le_refl _) id rfl (setRow_size _ _) (fun b hne => setRow_other hne _) rfl rfl rfl
    exact ((setCells_rel o hv hy hfit).ext hR hx)
  · exact Ext.write hR hb hf rfl (Nat.le_refl _) id rfl (setRow_size _ _) (fun b hne => setRow_other hne _) rfl rfl rfl

theorem setCells_left : ∀ (xs a b : List V) (o : Nat), o + xs.length ≤ a.length → setCells (a ++ b) o xs = setCells a o xs ++ b
  | [], _, _, _, _ => rfl
  | x :: xs, a, b, o, h => by
    simp only [List.length_cons] at h
    rw [setCells, setCells, List.set_append_left _ _ (by omega), setCells_left xs _ b (o + 1) (by simp; omega)]
theorem setCells_right : ∀ (xs a b : List V) (o : Nat), setCells (a ++ b) (a.length + o) xs = a ++ setCells b o xs
  | [], _, _, _ => rfl
  | x :: xs, a, b, o => by
    rw [setCells, setCells, List.set_append_right _ _ (by omega), Nat.add_sub_cancel_left, Nat.add_assoc, setCells_right xs a]

theorem flat_set {es : Nat} {d' : V} {f : Nat} {xs : List V} : ∀ {ds : List V} {i : Nat} {d : V}, (∀ d ∈ ds, (cellsV d).length = es) → ds[i]? = some d → f + xs.length ≤ es → cellsV d' = setCells (cellsV d) f xs →
    (ds.set i d').flatMap cellsV = setCells (ds.flatMap cellsV) (i * es + f) xs
  | [], i, d, _, h, _, _ => by simp at h
  | a :: ds, 0, d, hu, h, hf, he => by
    simp at h; subst h
    have := hu a (by simp)
    rw [List.set_cons_zero, List.flatMap_cons, List.flatMap_cons, he, Nat.zero_mul, Nat.zero_add, setCells_left _ _ _ _ (by omega)]
  | a :: ds, i + 1, d, hu, h, hf, he => by
    have h1 := hu a (by simp)
    have ih := flat_set (fun x hx => hu x (by simp [hx])) (i := i) (d := d) (ds := ds) (by simpa using h) hf he
    rw [List.set_cons_succ, List.flatMap_cons, List.flatMap_cons, ih, Nat.succ_mul, Nat.add_comm (i * es) es, Nat.add_assoc, ← h1, setCells_right]

theorem putElem_cells {d d' : V} {f : Nat} {xs : List V} (h : putElem d f xs = some d') (hp : plainCells xs = true) : cellsV d' = setCells (cellsV d) f xs ∧ f + xs.length ≤ (cellsV d).length := by
  unfold putElem at h
  split at h
  · split at h
    · simp only [Option.some.injEq] at h; subst h
      rename_i hle
      exact ⟨rfl, hle⟩
    · cases h
  · rename_i hne
    have e : cellsV d = [d] := by cases d <;> first | rfl | (exfalso; exact hne _ rfl)
    split at h
    · rename_i x
      simp only [Option.some.injEq] at h; subst h
      rw [e]
      refine ⟨?_, by simp⟩
      simp only [plainCells, Bool.and_true] at hp
      cases x <;> first | rfl | simp [plainCell] at hp
    · cases h

theorem plain_cellsOk : ∀ {xs : List V}, plainCells xs = true → cellsOk xs = true
  | [], _ => rfl
  | x :: xs, h => by
    simp only [plainCells, Bool.and_eq_true] at h
    simp only [cellsOk, Bool.and_eq_true]
    exact ⟨by cases x <;> simp_all [plainCell, cellOk], plain_cellsOk h.2⟩

/-- A row whose cells are written where it lies. -/
theorem write_row (hR : RelH C fid G H w) {l es : Nat} {ds ds' : List V} {h : Home} (hb : G.β l = some h) (hl : H[l]? = some (.row es ds false)) (hn : ds'.length = ds.length)
    (hu' : ∀ d ∈ ds', (cellsV d).length = es) {o : Nat} {ys : List V} {zs : List Value} (hy : VRels fid G w ys zs) (hfit : o + ys.length ≤ ds.length * es)
    (hcells : ∀ vals, VRels fid G w (ds.flatMap cellsV) vals → VRels fid G w (ds'.flatMap cellsV) (vals.take o ++ zs ++ vals.drop (o + zs.length))) {c : Array Value} {e : TypeId} (hc : w.heap[h.b]? = some (.cells c e (0, 0))) :
    ∃ G', RelH C fid G' (H.set l (.row es ds' false)) (w.setRow h.b (c.toList.take o ++ zs ++ c.toList.drop (o + zs.length)).toArray) ∧
      Ext G w G' (w.setRow h.b (c.toList.take o ++ zs ++ c.toList.drop (o + zs.length)).toArray) l H.length := by
  obtain ⟨ob, ho, hr⟩ := hR.obj l h hb
  rw [hl] at ho; cases ho
  obtain ⟨ht, hpos, hf, hes, hu, c', e', vals, rest, hc', hcs, hv, hrel⟩ := hr
  rw [hc] at hc'; cases hc'
  have hx : Ext G w ⟨upd G.β l h, G.I⟩ (w.setRow h.b (c.toList.take o ++ zs ++ c.toList.drop (o + zs.length)).toArray) l H.length :=
    Ext.write hR hb hf rfl (Nat.le_refl _) id rfl (setRow_size _ _) (fun b hne => setRow_other hne _) rfl rfl rfl
  have hfl := flat_length hu
  have hvl := hrel.length
  have hzl := hy.length
  refine ⟨_, ?_, hx⟩
  refine RelH.write hR hb hf rfl hf (Nat.le_refl _) id rfl (setRow_size _ _) (fun b hne => setRow_other hne _) _ ?_
  refine ⟨by rw [ht, hn], by omega, hf, hes, hu', _, e, vals.take o ++ zs ++ vals.drop (o + zs.length), rest, setRow_heap w h.b c _ e _ hc, ?_, ?_, ?_⟩
  · rw [hcs]
    simp only [List.size_toArray, List.length_append, List.length_take, List.length_drop, Array.length_toList]
    have : c.size = vals.length + rest.length := by rw [← Array.length_toList, hv, List.length_append]
    omega
  · rw [List.toList_toArray, hv, List.take_append_of_le_length (by omega), List.drop_append_of_le_length (by omega), List.append_assoc _ _ rest]
  · exact (hcells vals hrel).ext hR hx

theorem storeA_sound (hR : RelH C fid G H w) {t : TypeId} {n : Nat} (hs : C.sizeOf t = some n) {a u : V} {x y : Value} (ha : VRel fid G w a x) (hu : VRel fid G w u y) {l : Nat} (he : storeA H n a u = some (H', l)) :
    ∃ w' G', (Instr.storeAt t x y).run C.P w = .ok () w' ∧ RelH C fid G' H' w' ∧ Ext G w G' w' l H.length ∧ l < H.length ∧ H'.length = H.length := by
  have hsz : ∀ w, (Go.sizeOf t).run C.P w = .ok n w := by
    intro w
    simp only [Ctx.sizeOf, Option.map_eq_some_iff] at hs
    obtain ⟨i, hi, rfl⟩ := hs
    unfold Go.sizeOf
    rw [Sem.run_bind, run_typeInfo (P := C.P) w hi]; rfl
  have hrun : ∀ (b o : Nat) (c : Array Value) (e : TypeId), w.heap[b]? = some (.cells c e (0, 0)) → (cellsV u).length = n → cellsOk (cellsV u) = true → o + n ≤ c.size → x = .pointer (some ⟨b, o, none⟩) →
      (Instr.storeAt t x y).run C.P w = .ok () (w.setRow b (c.toList.take o ++ y.cells.toList ++ c.toList.drop (o + y.cells.toList.length)).toArray) := by
    intro b o c e hc hlen hok hle hx
    obtain ⟨h1, h2⟩ := cells_rel hu hok
    have hl := h1.length
    subst hx
    have hsz' : y.cells.size = n := by rw [← Array.length_toList, hl, hlen]
    simp only [Instr.storeAt, Instr.sureAddr, storeVar, Sem.run_bind, Sem.run_pure, Result.andThen_ok, hsz, hsz', ne_eq, not_true, if_false]
    have := run_storeCells_at C.P b o e y.cells.toList 0 c w hc (by omega) h2
    simpa using this
  unfold storeA at he
  split at he
  · rename_i l' o
    obtain ⟨h0, hb, ht, rfl⟩ := ha.ptrInv
    split at he
    · rename_i vs hl
      split at he
      · rename_i hc
        obtain ⟨hlen, hle, hok⟩ := hc
        simp only [Option.some.injEq, Prod.mk.injEq] at he
        obtain ⟨rfl, rfl⟩ := he
        obtain ⟨ob, ho, hr⟩ := hR.obj l' h0 hb
        rw [hl] at ho; cases ho
        obtain ⟨-, -, c, e, hc, hv⟩ := hr
        have hvl := hv.length
        obtain ⟨h1, h2⟩ := cells_rel hu hok
        obtain ⟨G', r1, r2⟩ := write_cells hR hb hl h1 (by rw [hlen]; exact hle) hc
        exact ⟨_, G', hrun h0.b o c e hc hlen hok (by rw [← Array.length_toList]; omega) rfl, r1, r2, hR.lt hb, by simp⟩
      · cases he
    · cases he
  · rename_i l' es i f tag
    obtain ⟨h0, ad, hb, hle0, had, rfl⟩ := ha.eptrInv
    split at he
    · rename_i es' ds hl
      split at he
      · rename_i hc
        obtain ⟨rfl, htag, hlen, hpl⟩ := hc
        split at he
        · rename_i d hd
          split at he
          · rename_i d' hd'
            simp only [Option.some.injEq, Prod.mk.injEq] at he
            obtain ⟨rfl, rfl⟩ := he
            obtain ⟨ob, ho, hr⟩ := hR.obj l' h0 hb
            rw [hl] at ho; cases ho
            obtain ⟨ht, hpos, hf, hes, huu, c, e, vals, rest, hc, hcs, hv, hrel⟩ := hr
            obtain ⟨p1, p2⟩ := putElem_cells hd' hpl
            have hdl : (cellsV d).length = es' := huu d (List.mem_of_getElem? hd)
            have hok := plain_cellsOk hpl
            obtain ⟨h1, h2⟩ := cells_rel hu hok
            have hi : i < ds.length := by
              obtain ⟨hi, -⟩ := List.getElem?_eq_some_iff.1 hd; exact hi
            have hmul : i * es' + es' ≤ ds.length * es' := by
              have : (i + 1) * es' ≤ ds.length * es' := Nat.mul_le_mul_right _ hi
              rw [Nat.succ_mul] at this; exact this
            have hd'l : (cellsV d').length = es' := by rw [p1, setCells_length, hdl]
            have hfl := flat_length huu
            have hvl := hrel.length
            have hcsz : c.size = vals.length + rest.length := by rw [← Array.length_toList, hv, List.length_append]
            obtain ⟨G', r1, r2⟩ := write_row hR hb hl (ds' := ds.set i d') (by simp)
              (fun a ha => by rcases List.mem_or_eq_of_mem_set ha with q | rfl; exact huu a q; exact hd'l) (o := i * es' + f) h1 (by omega) (fun vals hv => by rw [flat_set huu hd (by omega) p1]; exact setCells_rel _ hv h1 (by omega)) hc
            refine ⟨_, G', hrun h0.b (i * es' + f) c e hc hlen hok (by omega) ?_, r1, r2, hR.lt hb, by simp⟩
            rw [had (ht.trans htag)]
          · cases he
        · cases he
      · cases he
    · cases he
  · cases he

end ops
end Go.Abs
