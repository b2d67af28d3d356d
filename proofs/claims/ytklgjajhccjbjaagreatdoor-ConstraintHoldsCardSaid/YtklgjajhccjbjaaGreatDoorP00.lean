/- The abstract values, the abstract heap, the simplified code and its executor. Nothing here speaks of the real memory. -/
import Derived.Calls
import Derived.CheckFast
set_option linter.unusedVariables false
set_option linter.unusedSimpArgs false
namespace Go.Abs

/-- Abstract values. A slice that is never written again is the list of its elements ('list', with the cells of an element); pointers name objects of the abstract heap. -/
inductive V where
  | bool (b : Bool)
  | int (k : IntKind) (n : Int)
  | str (s : List UInt8)
  | nil0
  | emp
  | list (es : Nat) (ds : List V)
  | agg (vs : List V)
  | tup (vs : List V)
  | nilp
  | ptr (l o : Nat)
  | eptr (l es i f tag : Nat)
  | pin (vs : List V) (f : Nat)
  | sref (l es off len tag : Nat)
  | nilm
  | map (l : Nat)
  | nilf
  | fn (i : Nat) (first caps : List V)
  | yield (l : Nat)
  | nili
  | iface (t : Nat) (v : V)
  | undef
  deriving Inhabited

/-- 'tmp': a slot that lives in one region alone; 'var': any other. -/
inductive Opd where
  | tmp (t : Nat)
  | var (t : Nat)
  | const (v : V)
  | func (i : Nat)
  deriving Inhabited

inductive AOp where
  | mv (x : Opd)
  | pick (c a b : Opd)
  | alloc (z : List V)
  | box (x : Opd)
  | build (z : List V) (parts : List (Nat × Nat × Opd))
  | lit (es : Nat) (z : List V) (len : Nat) (parts : List (Nat × Opd)) (im : Bool)
  | load (sh : Option Nat) (x : Opd)
  | store (n : Nat) (a x : Opd)
  | nilCheck (x : Opd)
  | bin (op : BinOp) (x y : Opd)
  | eqAgg (neg : Bool) (ks : List Nat) (x y : Opd)
  | nilEq (kind : Nat) (neg : Bool) (x y : Opd)
  | un (op : UnOp) (x : Opd)
  | conv (k : IntKind) (x : Opd)
  | mkIface (t : Nat) (x : Opd)
  | mkFn (i : Nat) (first caps : List Opd)
  | mkMap
  | mkSlice (es : Nat) (z : List V) (bytes : Nat) (l c : Opd)
  | sliceS (x : Opd) (lo hi : Option Opd)
  | sliceL (es : Nat) (x : Opd) (lo hi mx : Option Opd)
  | fieldAddr (off : Nat) (x : Opd)
  | field (off : Nat) (sh : Option Nat) (x : Opd)
  | indexAddr (es : Nat) (x i : Opd)
  | indexS (x i : Opd)
  | lookup (kind : Nat) (z : V) (x i : Opd) (ok : Bool)
  | mapUpd (kind : Nat) (m k v : Opd)
  | extract (x : Opd) (i : Nat)
  | len (kind : Nat) (x : Opd)
  | append (es bytes : Nat) (a b : Opd)
  | minmax (mx : Bool) (x y : Opd)
  | copy (es : Nat) (a b : Opd)
  | call (raw : Bool) (f : Opd) (args : List Opd)
  | fail
  deriving Inhabited

/-- 'dst': the slot that is written, and whether it outlives the region. -/
structure AOper where
  dst : Option (Nat × Bool)
  op : AOp
  guard : Option (Opd × Bool)
  deriving Inhabited

inductive ACode where
  | skip
  | region (ops : List AOper) (bef : Option (List Nat))
  | seq (a b : ACode)
  | cond (c : Opd) (t e : ACode)
  | block (id : Nat) (body : ACode)
  | loop (body : ACode)
  | rangeFunc (f : Opd) (params : List Nat) (assign body : ACode)
  | exit (id : Nat)
  | ret
  | fail
  deriving Inhabited

inductive ARes where
  | tmp (t : Nat)
  | cell (a : Nat) (sh : Option Nat)
  deriving Inhabited

structure AFunc where
  nslots : Nat
  body : ACode
  results : List ARes
  fresh : Bool
  deriving Inhabited

abbrev Env := List (Nat × V)

/-- How a round or a region is left. -/
inductive X where
  | normal
  | exit (id : Nat)
  | ret
  deriving DecidableEq, Inhabited

inductive AObj where
  | cells (vs : List V)
  | row (es : Nat) (ds : List V) (fz : Bool)
  | map (ents : List (V × V))
  | loop (st : LoopState) (pend : X) (env : Env) (params : List Nat) (assign body : ACode)
  | gone
  deriving Inhabited

abbrev Heap := List AObj

structure St where
  tE : Env
  vE : Env
  H : Heap
  low : Nat
  ro : Option Nat := none
  deriving Inhabited

/-! ### small functions on values -/

def cellsV : V → List V
  | .agg vs => vs
  | v => [v]

mutual
/-- No name of a heap object in it. -/
def isP : V → Bool
  | .bool _ | .int _ _ | .str _ | .nil0 | .emp | .list _ _ | .nilp | .nilm | .nilf | .nili => true
  | .agg vs | .tup vs => isPs vs
  | .iface _ v => isP v
  | .fn _ a b => isPs a && isPs b
  | _ => false
def isPs : List V → Bool
  | [] => true
  | v :: r => isP v && isPs r
end

mutual
/-- No memory at all in it. -/
def flat : V → Bool
  | .bool _ | .int _ _ | .str _ | .nil0 | .emp | .nilp | .nilm | .nilf | .nili => true
  | .agg vs | .tup vs => flats vs
  | _ => false
def flats : List V → Bool
  | [] => true
  | v :: r => flat v && flats r
end

mutual
/-- All heap objects that it names are older than n. -/
def old (n : Nat) : V → Bool
  | .ptr l _ | .eptr l _ _ _ _ | .sref l _ _ _ _ | .map l | .yield l => decide (l < n)
  | .agg vs | .tup vs => olds n vs
  | .fn _ a b => olds n a && olds n b
  | .iface _ v => old n v
  | .undef => false
  | _ => true
def olds (n : Nat) : List V → Bool
  | [] => true
  | v :: r => old n v && olds n r
end

def isU : V → Bool
  | .undef => true
  | _ => false

def readCells (cs : List V) (o : Nat) : Option Nat → Option V
  | none => cs[o]?
  | some n => if o + n ≤ cs.length then some (.agg ((cs.drop o).take n)) else none

def setCells (cs : List V) (o : Nat) : List V → List V
  | [] => cs
  | x :: xs => setCells (cs.set o x) (o + 1) xs

def lookupE : Env → Nat → V
  | [], _ => .undef
  | (k, v) :: r, t => if k = t then v else lookupE r t

def setE : Env → Nat → V → Env
  | [], t, v => [(t, v)]
  | (k, u) :: r, t, v => if k = t then (k, v) :: r else (k, u) :: setE r t v

def Opd.ev (tE vE : Env) : Opd → V
  | .tmp t => lookupE tE t
  | .var t => lookupE vE t
  | .const v => v
  | .func i => .fn i [] []

/-! ### the heap: reading, writing, freezing -/

def loadA (H : Heap) (sh : Option Nat) : V → Option V
  | .ptr l o => match H[l]? with
    | some (.cells vs) => readCells vs o sh
    | _ => none
  | .eptr l es i f tag => match H[l]? with
    | some (.row es' ds _) => if es' = es ∧ ds.length = tag then (ds[i]?).bind fun d => readCells (cellsV d) f sh else none
    | _ => none
  | .pin vs f => readCells vs f sh
  | _ => none

/-- A row's element with cells written. -/
def putElem (d : V) (f : Nat) (xs : List V) : Option V :=
  match d with
  | .agg vs => if f + xs.length ≤ vs.length then some (.agg (setCells vs f xs)) else none
  | _ => match f, xs with
    | 0, [x] => some x
    | _, _ => none

/-- What can be the content of one cell. -/
def cellOk : V → Bool
  | .agg _ | .tup _ | .undef => false
  | _ => true

def cellsOk : List V → Bool
  | [] => true
  | v :: r => cellOk v && cellsOk r

/-- What may stand in a row. -/
def plainCell : V → Bool
  | .agg _ | .tup _ | .undef | .pin .. | .eptr .. => false
  | _ => true

def plainCells : List V → Bool
  | [] => true
  | v :: r => plainCell v && plainCells r

def storeA (H : Heap) (n : Nat) (a v : V) : Option (Heap × Nat) :=
  match a with
  | .ptr l o => match H[l]? with
    | some (.cells vs) => if (cellsV v).length = n ∧ o + n ≤ vs.length ∧ cellsOk (cellsV v) = true then some (H.set l (.cells (setCells vs o (cellsV v))), l) else none
    | _ => none
  | .eptr l es i f tag => match H[l]? with
    | some (.row es' ds false) =>
      if es' = es ∧ ds.length = tag ∧ (cellsV v).length = n ∧ plainCells (cellsV v) = true then
        match ds[i]? with
        | some d => match putElem d f (cellsV v) with
          | some d' => some (H.set l (.row es (ds.set i d') false), l)
          | none => none
        | none => none
      else none
    | _ => none
  | _ => none

/-- One after the other. -/
def mapFz (f : Heap → Nat → V → Option (V × Heap × Nat)) (H : Heap) (low : Nat) : List V → Option (List V × Heap × Nat)
  | [] => some ([], H, low)
  | v :: r => match f H low v with
    | some (v', H1, low1) => match mapFz f H1 low1 r with
      | some (r', H2, low2) => some (v' :: r', H2, low2)
      | none => none
    | none => none

/-- Freezes a value: an aggregate or a tuple cell by cell, a row with all that lies in it. -/
def freezeD : Nat → Heap → Nat → V → Option (V × Heap × Nat)
  | 0, H, low, v => if isP v then some (v, H, low) else none
  | n + 1, H, low, v =>
    if isP v then some (v, H, low) else
    match v with
    | .agg vs => match mapFz (freezeD n) H low vs with
      | some (vs', H', low') => some (.agg vs', H', low')
      | none => none
    | .tup vs => match mapFz (freezeD n) H low vs with
      | some (vs', H', low') => some (.tup vs', H', low')
      | none => none
    | .sref l es off len tag => match H[l]? with
      | some (.row es' ds fz) =>
        if es' = es ∧ ds.length = tag ∧ off + len ≤ ds.length then
          if isPs ds = true then some (.list es ((ds.drop off).take len), if fz then H else H.set l (.row es ds true), if fz then low else min low l)
          else match mapFz (freezeD n) H low ds with
            | some (ds', H', low') => match H'[l]? with
              | some (.row es2 ds2 false) =>
                if es2 = es ∧ ds2.length = tag ∧ isPs ds' = true then some (.list es ((ds'.drop off).take len), H'.set l (.row es ds' true), min low' l) else none
              | _ => none
            | none => none
        else none
      | _ => none
    | v => some (v, H, low)

def freezeV (H : Heap) (low : Nat) (v : V) : Option (V × Heap × Nat) := freezeD 16 H low v

def freezeVs (H : Heap) (low : Nat) : List V → Option (List V × Heap × Nat)
  | [] => some ([], H, low)
  | v :: r => match freezeV H low v with
    | some (v', H1, low1) => match freezeVs H1 low1 r with
      | some (r', H2, low2) => some (v' :: r', H2, low2)
      | none => none
    | none => none

/-- The elements of a slice. -/
def elems (H : Heap) (es : Nat) : V → Option (List V)
  | .nil0 | .emp => some []
  | .list es' ds => if es' = es then some ds else none
  | .sref l es' off len tag => match H[l]? with
    | some (.row es'' ds _) => if es' = es ∧ es'' = es ∧ ds.length = tag ∧ off + len ≤ ds.length then some ((ds.drop off).take len) else none
    | _ => none
  | _ => none

/-! ### operations -/

def boolOf : V → Option Bool
  | .bool b => some b
  | _ => none
def natOf : V → Option Nat
  | .int _ n => if 0 ≤ n then some n.toNat else none
  | _ => none

def binA (op : BinOp) (x y : V) : Option V :=
  match op, x, y with
  | .shl, .int k a, .int _ b => if 0 ≤ b ∧ b.toNat ≤ k.bits then some (.int k (k.wrap (a * 2 ^ b.toNat))) else none
  | .shr, .int k a, .int _ b => if 0 ≤ b ∧ b.toNat ≤ k.bits then some (.int k (a / 2 ^ b.toNat)) else none
  | op, .int k a, .int k' b =>
    if k ≠ k' then none else
    match op with
    | .add => some (.int k (k.wrap (a + b)))
    | .sub => some (.int k (k.wrap (a - b)))
    | .mul => some (.int k (k.wrap (a * b)))
    | .quo => if b = 0 then none else some (.int k (k.wrap (a.tdiv b)))
    | .rem => if b = 0 then none else some (.int k (a.tmod b))
    | .eql => some (.bool (a == b))
    | .neq => some (.bool (a != b))
    | .lss => some (.bool (decide (a < b)))
    | .leq => some (.bool (decide (a ≤ b)))
    | .gtr => some (.bool (decide (a > b)))
    | .geq => some (.bool (decide (a ≥ b)))
    | .and => some (.int k (k.wrap ((BitVec.ofInt k.bits a &&& BitVec.ofInt k.bits b).toNat)))
    | _ => none
  | .add, .str a, .str b => if a.length + b.length ≤ 2 ^ 40 then some (.str (a ++ b)) else none
  | .eql, .str a, .str b => some (.bool (a == b))
  | .neq, .str a, .str b => some (.bool (a != b))
  | _, _, _ => none

/-- '==' at pointers (0), slices (1), functions (2), interfaces (3) against nil, and at bools (4). -/
def nilEqA (kind : Nat) (x y : V) : Option Bool :=
  match kind, x, y with
  | 0, .nilp, .nilp => some true
  | 0, .ptr _ _, .nilp | 0, .nilp, .ptr _ _ => some false
  | 1, .nil0, .nil0 => some true
  | 1, .emp, .nil0 | 1, .list _ _, .nil0 | 1, .sref _ _ _ _ _, .nil0 => some false
  | 2, .nilf, .nilf => some true
  | 2, .fn _ _ _, .nilf => some false
  | 3, .nili, .nili => some true
  | 3, .iface _ _, .nili => some false
  | 4, .bool a, .bool b => some (a == b)
  | _, _, _ => none

def unA (op : UnOp) (x : V) : Option V :=
  match op, x with
  | .neg, .int k n => some (.int k (k.wrap (0 - n)))
  | .not, .bool b => some (.bool !b)
  | _, _ => none

/-- Two parts of a struct; 0: ints, 1: strings, 2: bools. -/
def eqK : Nat → V → V → Option Bool
  | 0, .int k a, .int k' b => if k = k' then some (a == b) else none
  | 1, .str a, .str b => some (a == b)
  | 2, .bool a, .bool b => some (a == b)
  | _, _, _ => none

def eqCells : List Nat → List V → List V → Option Bool
  | [], [], [] => some true
  | k :: ks, a :: x, b :: y => match eqK k a b with
    | some e => match eqCells ks x y with
      | some e' => some (e && e')
      | none => none
    | none => none
  | _, _, _ => none

def findEnt (kind : Nat) (k : V) : List (V × V) → Option (Option V)
  | [] => some none
  | (k', v) :: r => match eqK kind k k' with
    | some true => some (some v)
    | some false => findEnt kind k r
    | none => none

def setEnt (kind : Nat) (k v : V) : List (V × V) → List (V × V)
  | [] => [(k, v)]
  | (k', u) :: r => if eqK kind k k' = some true then (k, v) :: r else (k', u) :: setEnt kind k v r

def fillA (cs : List V) : List (Nat × Nat × V) → Option (List V)
  | [] => some cs
  | (off, n, v) :: r => if (cellsV v).length = n ∧ off + n ≤ cs.length ∧ cellsOk (cellsV v) = true then fillA (setCells cs off (cellsV v)) r else none

def fillL (es : Nat) (ds : List V) : List (Nat × V) → Option (List V)
  | [] => some ds
  | (i, v) :: r => if (cellsV v).length = es ∧ i < ds.length ∧ cellsOk (cellsV v) = true then fillL es (ds.set i v) r else none

def zeroElem (z : List V) : V := match z with | [x] => x | _ => .agg z

def bnd (ev : Opd → V) (dflt : Nat) : Option Opd → Option Nat
  | none => some dflt
  | some x => natOf (ev x)

/-- An operation that is no call. -/
def step (ev : Opd → V) (H : Heap) (low : Nat) : AOp → Option (V × Heap × Nat)
  | .mv x => some (ev x, H, low)
  | .pick c a b => (boolOf (ev c)).map fun t => (if t then ev a else ev b, H, low)
  | .alloc z => some (.ptr H.length 0, H ++ [.cells z], low)
  | .box x => if cellsOk (cellsV (ev x)) then some (.ptr H.length 0, H ++ [.cells (cellsV (ev x))], low) else none
  | .build z parts => (fillA z (parts.map fun p => (p.1, p.2.1, ev p.2.2))).map fun cs => (.agg cs, H, low)
  | .lit es z len parts im => match freezeVs H low (parts.map fun p => ev p.2) with
    | some (vs, H', low') => match fillL es (List.replicate len (zeroElem z)) ((parts.zip vs).map fun (p, v) => (p.1, v)) with
      | some ds =>
        if im then (if isPs ds then some (if len = 0 then .emp else .list es ds, H', low') else none)
        else if len = 0 then some (.emp, H', low') else some (.sref H'.length es 0 len len, H' ++ [.row es ds false], low')
      | none => none
    | none => none
  | .load sh x => (loadA H sh (ev x)).map fun v => (v, H, low)
  | .store n a x => (storeA H n (ev a) (ev x)).map fun (H', l) => (.undef, H', min low l)
  | .nilCheck x => match ev x with
    | .ptr l o => some (.ptr l o, H, low)
    | .eptr l es i f tag => some (.eptr l es i f tag, H, low)
    | .pin vs f => some (.pin vs f, H, low)
    | .fn i a b => some (.fn i a b, H, low)
    | _ => none
  | .bin op x y => (binA op (ev x) (ev y)).map fun v => (v, H, low)
  | .eqAgg neg ks x y => match ev x, ev y with
    | .agg a, .agg b => (eqCells ks a b).map fun e => (.bool (if neg then !e else e), H, low)
    | _, _ => none
  | .nilEq kind neg x y => (nilEqA kind (ev x) (ev y)).map fun e => (.bool (if neg then !e else e), H, low)
  | .un op x => (unA op (ev x)).map fun v => (v, H, low)
  | .conv k x => match ev x with
    | .int _ n => some (.int k (k.wrap n), H, low)
    | _ => none
  | .mkIface t x => match freezeV H low (ev x) with
    | some (v, H', low') => some (.iface t v, H', low')
    | none => none
  | .mkFn i a b => some (.fn i (a.map ev) (b.map ev), H, low)
  | .mkMap => some (.map H.length, H ++ [.map []], low)
  | .mkSlice es z bytes l c => match ev l, ev c with
    | .int _ n, .int _ m => if n = m ∧ 0 ≤ n ∧ n * (bytes + 1) ≤ 2 ^ 40 then
        (if n = 0 then some (.emp, H, low) else
          some (.sref H.length es 0 n.toNat n.toNat, H ++ [.row es (List.replicate n.toNat (zeroElem z)) false], low)) else none
    | _, _ => none
  | .sliceS x lo hi => match ev x with
    | .str s => match bnd ev 0 lo, bnd ev s.length hi with
      | some a, some b => if a ≤ b ∧ b ≤ s.length then some (.str ((s.take b).drop a), H, low) else none
      | _, _ => none
    | _ => none
  | .sliceL es x lo hi mx => match ev x with
    | .nil0 => match bnd ev 0 lo, bnd ev 0 hi, bnd ev 0 mx with
      | some 0, some 0, some 0 => some (.nil0, H, low)
      | _, _, _ => none
    | .emp => match bnd ev 0 lo, bnd ev 0 hi, bnd ev 0 mx with
      | some 0, some 0, some 0 => some (.emp, H, low)
      | _, _, _ => none
    | .list es' ds => match bnd ev 0 lo, bnd ev ds.length hi with
      | some a, some b => if a ≤ b ∧ b ≤ ds.length ∧ es' = es then
          match mx with
          | none => some (.list es ((ds.take b).drop a), H, low)
          | some m => if natOf (ev m) = some 0 ∧ b = 0 then some (.emp, H, low) else none
        else none
      | _, _ => none
    | .sref l es' off len tag => match bnd ev 0 lo, bnd ev len hi with
      | some a, some b => if a ≤ b ∧ b ≤ len ∧ es' = es then
          match mx with
          | none => match H[l]? with
            | some (.row es'' ds _) => if ds.length = tag ∧ es'' = es then (if a < b then some (.sref l es (off + a) (b - a) tag, H, low) else some (.list es [], H, low)) else none
            | _ => none
          | some m => if natOf (ev m) = some 0 ∧ b = 0 then some (.emp, H, low) else none
        else none
      | _, _ => none
    | _ => none
  | .fieldAddr off x => match ev x with
    | .ptr l o => some (.ptr l (o + off), H, low)
    | .eptr l es i f tag => some (.eptr l es i (f + off) tag, H, low)
    | .pin vs f => some (.pin vs (f + off), H, low)
    | _ => none
  | .field off sh x => match ev x with
    | .agg vs => (readCells vs off sh).map fun v => (v, H, low)
    | _ => none
  | .indexAddr es x i => match natOf (ev i) with
    | some i => match ev x with
      | .list es' ds => if es' = es then (ds[i]?).map fun d => (.pin (cellsV d) 0, H, low) else none
      | .sref l es' off len tag => match H[l]? with
        | some (.row es'' ds _) => if es' = es ∧ es'' = es ∧ ds.length = tag ∧ i < len ∧ off + len ≤ ds.length then some (.eptr l es (off + i) 0 tag, H, low) else none
        | _ => none
      | _ => none
    | none => none
  | .indexS x i => match ev x, natOf (ev i) with
    | .str s, some i => (s[i]?).map fun c => (.int .u8 c.toNat, H, low)
    | _, _ => none
  | .lookup kind z x i ok => match ev x with
    | .nilm => some (if ok then .tup [z, .bool false] else z, H, low)
    | .map l => match H[l]? with
      | some (.map ents) => match findEnt kind (ev i) ents with
        | some (some v) => some (if ok then .tup [v, .bool true] else v, H, low)
        | some none => some (if ok then .tup [z, .bool false] else z, H, low)
        | none => none
      | _ => none
    | _ => none
  | .mapUpd kind m k v => match freezeV H low (ev v) with
    | some (v', H', low') => if isU v' then none else match ev m with
      | .map l => match H'[l]? with
        | some (.map ents) => match findEnt kind (ev k) ents with
          | some _ => some (.undef, H'.set l (.map (setEnt kind (ev k) v' ents)), min low' l)
          | none => none
        | _ => none
      | _ => none
    | none => none
  | .extract x i => match ev x with
    | .tup vs => (vs[i]?).map fun v => (v, H, low)
    | _ => none
  | .len kind x => match kind, ev x with
    | 0, .str s => some (.int .i64 s.length, H, low)
    | 1, .nil0 | 1, .emp => some (.int .i64 0, H, low)
    | 1, .list _ ds => some (.int .i64 ds.length, H, low)
    | 1, .sref l es _ len tag => match H[l]? with
      | some (.row es' ds _) => if es' = es ∧ ds.length = tag then some (.int .i64 len, H, low) else none
      | _ => none
    | 2, .nilm => some (.int .i64 0, H, low)
    | 2, .map l => match H[l]? with
      | some (.map ents) => some (.int .i64 ents.length, H, low)
      | _ => none
    | _, _ => none
  | .append es bytes a b => match elems H es (ev b) with
    | some xs => match freezeVs H low xs with
      | some (xs, H', low') =>
        if xs.isEmpty then
          match ev a with
          | .nil0 => some (.nil0, H', low')
          | .emp => some (.emp, H', low')
          | .list es' ds => some (.list es' ds, H', low')
          | .sref l es' off len tag => match H'[l]? with
            | some (.row _ ds _) => if ds.length = tag then some (.sref l es' off len tag, H', low') else none
            | _ => none
          | _ => none
        else if cellsOk (xs.flatMap cellsV) = false then none else
        match ev a with
        | .nil0 => if xs.length * (bytes + 1) ≤ 2 ^ 40 then
            some (.sref H'.length es 0 xs.length xs.length, H' ++ [.row es xs false], low') else none
        | .emp => if xs.length * (bytes + 1) ≤ 2 ^ 40 then
            some (.sref H'.length es 0 xs.length xs.length, H' ++ [.row es xs false], low') else none
        | .sref l es' off len tag => match H'[l]? with
          | some (.row es'' ds false) =>
            if es' = es ∧ es'' = es ∧ ds.length = tag ∧ off = 0 ∧ len = tag ∧ (len + xs.length) * (bytes + 1) ≤ 2 ^ 40 then
              some (.sref l es 0 (len + xs.length) (len + xs.length), H'.set l (.row es (ds ++ xs) false), min low' l)
            else none
          | _ => none
        | _ => none
      | none => none
    | none => none
  | .minmax mx x y => match ev x, ev y with
    | .int k a, .int k' b => if k = k' then some (.int k (if mx then max a b else min a b), H, low) else none
    | _, _ => none
  | .copy es a b => match ev a, elems H es (ev b) with
    | .nil0, some _ | .emp, some _ => some (.int .i64 0, H, low)
    | .sref l es' off len tag, some xs => match H[l]? with
      | some (.row es'' ds false) =>
        if es' = es ∧ es'' = es ∧ ds.length = tag ∧ off + len ≤ ds.length ∧ plainCells (xs.flatMap cellsV) = true then
          some (.int .i64 ((min len xs.length : Nat) : Int), H.set l (.row es (ds.take off ++ xs.take len ++ ds.drop (off + min len xs.length)) false), min low l)
        else none
      | _ => none
    | _, _ => none
  | .call _ _ _ => none
  | .fail => none

/-! ### code -/

/-- What a call does: the value, the heap, the oldest object that was written. -/
abbrev CallT := V → List V → Heap → Option (V × Heap × Nat)

/-- What was skipped has the empty tuple. -/
def wantedA (tE vE : Env) : Option (Opd × Bool) → Option Bool
  | none => some true
  | some (t, b) => match t.ev tE vE with
    | .bool c => some (c == b)
    | .tup [] => some false
    | _ => none

def St.put (st : St) : Option (Nat × Bool) → V → St
  | none, _ => st
  | some (t, true), v => { st with vE := setE st.vE t v }
  | some (t, false), v => { st with tE := (t, v) :: st.tE }

def stepC (call : CallT) (ev : Opd → V) (H : Heap) (low : Nat) : AOp → Option (V × Heap × Nat)
  | .call true f args => match call (ev f) (args.map ev) H with
    | some (v, H', l) => some (v, H', min low l)
    | none => none
  | .call false f args => match freezeVs H low (args.map ev) with
    | some (vs, H', low') => match call (ev f) vs H' with
      | some (v, H'', l) => if flat v = true ∧ H'.length ≤ l then some (v, H, low) else some (v, H'', min low' l)
      | none => none
    | none => none
  | op => step ev H low op

/-- Whether an operation has written an object, or made one. -/
def movedH (H H' : Heap) (low : Nat) : Bool := decide (low < H.length) || H'.length != H.length

/-- The operations of a region, in the order of their numbers; 'wr' collects which of them changed the heap. -/
def execOps (call : CallT) : List AOper → St → List Bool → Option (St × List Bool)
  | [], st, wr => some (st, wr.reverse)
  | o :: r, st, wr =>
    match wantedA st.tE st.vE o.guard with
    | some true => match stepC call (Opd.ev st.tE st.vE) st.H st.H.length o.op with
      | some (v, H', low') => execOps call r ({ st with H := H', low := min st.low low' }.put o.dst v) (movedH st.H H' low' :: wr)
      | none => none
    | some false => execOps call r (st.put o.dst (.tup [])) (false :: wr)
    | none => none

/-- Operations that look at the heap, or make objects. -/
def touches : AOp → Bool
  | .mv _ | .pick .. | .build .. | .nilCheck _ | .bin .. | .eqAgg .. | .nilEq .. | .un .. | .conv .. | .mkFn .. | .sliceS .. | .fieldAddr .. | .field .. | .indexS .. | .extract .. | .minmax .. => false
  | _ => true

/-- What an operation looks at. -/
def AOp.operands : AOp → List Opd
  | .mv x | .box x | .load _ x | .nilCheck x | .un _ x | .conv _ x | .mkIface _ x | .fieldAddr _ x | .field _ _ x | .extract x _ | .len _ x => [x]
  | .pick a b c => [a, b, c]
  | .alloc _ | .mkMap | .fail => []
  | .build _ parts => parts.map (·.2.2)
  | .lit _ _ _ parts _ => parts.map (·.2)
  | .store _ a x | .bin _ a x | .eqAgg _ _ a x | .nilEq _ _ a x | .mkSlice _ _ _ a x | .indexAddr _ a x | .indexS a x | .lookup _ _ a x _ | .append _ _ a x | .minmax _ a x | .copy _ a x => [a, x]
  | .mkFn _ a b => a ++ b
  | .sliceS x lo hi => x :: (lo.toList ++ hi.toList)
  | .sliceL _ x lo hi mx => x :: (lo.toList ++ hi.toList ++ mx.toList)
  | .mapUpd _ m k v => [m, k, v]
  | .call _ f args => f :: args

/-- Whoever changed the heap stands in order with whoever looks. 'bef': of each operation the bits of those that come before it. -/
def inOrder0 (bef : List Nat) (ops : List AOper) (wr : List Bool) : Bool :=
  if wr.any id then
    (wr.zipIdx).all fun (w, i) => !w || (ops.zipIdx).all fun (o, j) =>
      !touches o.op || i == j || (if j < i then (bef.getD i 0).testBit j else (bef.getD j 0).testBit i)
  else true

/-- Whatever touches the heap makes a new row, and looks at nothing there. -/
def allocsOk (ops : List AOper) : Bool := ops.all fun o => !touches o.op || match o.op, o.guard with
  | .mkSlice .., none => true
  | _, _ => false

def inOrder (bef : List Nat) (ops : List AOper) (wr : List Bool) : Bool := inOrder0 bef ops wr || allocsOk ops

/-! ### orders that do not matter -/

mutual
def eqV : V → V → Bool
  | .bool a, .bool b => a == b
  | .int k n, .int k' m => decide (k = k') && decide (n = m)
  | .str s, .str s' => decide (s = s')
  | .nil0, .nil0 | .emp, .emp | .nilp, .nilp | .nilm, .nilm | .nilf, .nilf | .nili, .nili | .undef, .undef => true
  | .list e ds, .list e' ds' => decide (e = e') && eqVs ds ds'
  | .agg a, .agg b | .tup a, .tup b => eqVs a b
  | .ptr l o, .ptr l' o' => decide (l = l') && decide (o = o')
  | .eptr a b c d e, .eptr a' b' c' d' e' => decide (a = a') && (decide (b = b') && (decide (c = c') && (decide (d = d') && decide (e = e'))))
  | .pin vs f, .pin vs' f' => eqVs vs vs' && decide (f = f')
  | .sref a b c d e, .sref a' b' c' d' e' => decide (a = a') && (decide (b = b') && (decide (c = c') && (decide (d = d') && decide (e = e'))))
  | .map l, .map l' | .yield l, .yield l' => decide (l = l')
  | .fn i a b, .fn i' a' b' => decide (i = i') && (eqVs a a' && eqVs b b')
  | .iface t v, .iface t' v' => decide (t = t') && eqV v v'
  | _, _ => false
def eqVs : List V → List V → Bool
  | [], [] => true
  | a :: r, b :: s => eqV a b && eqVs r s
  | _, _ => false
end

/-- The states ahead of each operation, and behind the last one. -/
def traceOps (call : CallT) : List AOper → St → Option (List St)
  | [], st => some [st]
  | o :: r, st =>
    match wantedA st.tE st.vE o.guard with
    | some true => match stepC call (Opd.ev st.tE st.vE) st.H st.H.length o.op with
      | some (v, H', low') => (traceOps call r ({ st with H := H', low := min st.low low' }.put o.dst v)).map (st :: ·)
      | none => none
    | some false => (traceOps call r (st.put o.dst (.tup []))).map (st :: ·)
    | none => none

def orderedB (bef : List Nat) (i j : Nat) : Bool := if j < i then (bef.getD i 0).testBit j else (bef.getD j 0).testBit i

/-- An operation that changes nothing says the same over another heap. -/
def stable (call : CallT) (q : AOper × St × Heap) : Bool :=
  match wantedA q.2.1.tE q.2.1.vE q.1.guard with
  | some false => true
  | some true => match stepC call (Opd.ev q.2.1.tE q.2.1.vE) q.2.1.H q.2.1.H.length q.1.op with
    | some (v, _, _) => match stepC call (Opd.ev q.2.1.tE q.2.1.vE) q.2.2 q.2.2.length q.1.op with
      | some (v', H', low') => eqV v v' && !movedH q.2.2 H' low'
      | none => false
    | none => false
  | none => false

def writersOk (bef : List Nat) (wr : List Bool) : Bool :=
  wr.zipIdx.all fun (w, i) => !w || wr.zipIdx.all fun (w', j) => !w' || i == j || orderedB bef i j

/-- Over which heaps an operation that changes nothing may come. -/
def demands (bef : List Nat) (ops : List AOper) (wr : List Bool) (tr : List St) : List (AOper × St × Heap) :=
  ops.zipIdx.flatMap fun (o, j) => if !touches o.op || wr.getD j false then [] else
    tr.zipIdx.flatMap fun (Sk, k) => if k == j || (k != 0 && !wr.getD (k - 1) false) || wr.zipIdx.any (fun (w, i) => w && (i != j && (orderedB bef i j && (decide (i < j) != decide (i < k))))) then [] else
      match tr[j]? with
      | some Sj => [(o, Sj, Sk.H)]
      | none => []

def movesOk (call : CallT) (bef : List Nat) (ops : List AOper) (wr : List Bool) (st : St) : Bool :=
  match traceOps call ops st with
  | some tr => writersOk bef wr && (demands bef ops wr tr).all (stable call)
  | none => false

def iter (f : St → Option (X × St)) : Nat → St → Option (X × St)
  | 0, _ => none
  | n + 1, st => match f st with
    | some (.normal, st') => iter f n st'
    | r => r

def isFn : V → Bool
  | .fn .. => true
  | _ => false

/-- A round's own record is there. -/
def roOk (H : Heap) : Option Nat → Bool
  | none => true
  | some l => match H[l]? with
    | some (.loop ..) => true
    | _ => false

/-- A region's end; its 'low' is reckoned now: else a long run heaps up what is to be reckoned. -/
def St.closed (st : St) : St := match Nat.ble st.low 0 with
  | true => { st with tE := [] }
  | false => { st with tE := [] }

theorem St.closed_eq (st : St) : st.closed = { st with tE := [] } := by
  unfold St.closed
  split <;> rfl

/-- The whole code of a body, calls by 'call', loops of at most n rounds. -/
def exec (call : CallT) (n : Nat) : ACode → St → Option (X × St)
  | .skip, st => some (.normal, st)
  | .region ops bef, st => match execOps call ops { st with tE := [] } [] with
    | some (st', wr) => match bef with
      | none => some (.normal, st'.closed)
      | some b => if inOrder b ops wr || movesOk call b ops wr { st with tE := [] } then some (.normal, st'.closed) else none
    | none => none
  | .seq a b, st => match exec call n a st with
    | some (.normal, st') => exec call n b st'
    | r => r
  | .cond c t e, st => match c.ev st.tE st.vE with
    | .bool true => exec call n t st
    | .bool false => exec call n e st
    | _ => none
  | .block id c, st => match exec call n c st with
    | some (.exit id', st') => if id' = id then some (.normal, st') else some (.exit id', st')
    | r => r
  | .loop c, st => iter (exec call n c) n st
  | .rangeFunc f params assign body, st =>
    let l := st.H.length
    if (roOk st.H st.ro && isFn (f.ev st.tE st.vE)) = false then none else
    match call (f.ev st.tE st.vE) [.yield l] (st.H ++ [.loop .ready .normal st.vE params assign body]) with
    | some (_, H', low') => match H'[l]? with
      | some (.loop ls pend _ _ _ _) => if ls = .busy then none else some (pend, { st with H := H'.set l .gone, low := min st.low low' })
      | _ => none
    | none => none
  | .exit id, st => some (.exit id, st)
  | .ret, st => some (.ret, st)
  | .fail, _ => none

def resultA (vE : Env) (H : Heap) : ARes → Option V
  | .tmp t => some (lookupE vE t)
  | .cell a sh => loadA H sh (lookupE vE a)

def resultsA (env : Env) (H : Heap) : List ARes → Option (List V)
  | [] => some []
  | r :: rs => match resultA env H r with
    | some v => match resultsA env H rs with
      | some vs => some (v :: vs)
      | none => none
    | none => none

def zipE : Nat → List V → Env
  | _, [] => []
  | i, v :: r => (i, v) :: zipE (i + 1) r

/-- What a call leaves: nothing old was written and nothing new is handed back: the heap is the caller's. A row of its own that it hands back becomes the caller's next object. -/
def finish (fresh : Bool) (H0 : Heap) (v : V) (H : Heap) (low : Nat) : Option (V × Heap × Nat) :=
  match fresh, v with
  | true, .sref l es off len tag => match H[l]? with
    | some (.row es' ds false) =>
      if H0.length ≤ low ∧ H0.length ≤ l ∧ es' = es ∧ ds.length = tag ∧ olds H0.length ds = true then some (.sref H0.length es off len tag, H0 ++ [.row es ds false], H0.length) else none
    | _ => none
  | _, v => match freezeV H low v with
    | some (v', H', low') => if H0.length ≤ low' ∧ old H0.length v' = true then some (v', H0, H0.length) else some (v', H', low')
    | none => none

inductive Fun where
  | code (f : AFunc)
  | ext (spec : List V → Option V)
  deriving Inhabited

def callBody (ex : ACode → St → Option (X × St)) (f : AFunc) (args : List V) (H : Heap) : Option (V × Heap × Nat) :=
  if args.length ≤ f.nslots then
    match ex f.body { tE := [], vE := zipE 0 args, H, low := H.length } with
    | some (.normal, st) | some (.ret, st) => match resultsA st.vE st.H f.results with
      | some [v] => finish f.fresh H v st.H st.low
      | some vs => finish f.fresh H (.tup vs) st.H st.low
      | none => none
    | _ => none
  else none

def yieldBody (ex : ACode → St → Option (X × St)) (l : Nat) (args : List V) (H : Heap) : Option (V × Heap × Nat) :=
  match H[l]? with
  | some (.loop .ready _ env params assign body) =>
    if args.length = params.length then
      match ex assign { tE := [], vE := (params.zip args).foldl (fun e (t, v) => setE e t v) env, H, low := H.length, ro := some l } with
      | some (.normal, st) => match st.H[l]? with
        | some (.loop .ready p env' ps as bd) => match ex body { st with H := st.H.set l (.loop .busy p env' ps as bd), low := min st.low l } with
          | some (x, st') => match st'.H[l]? with
            | some (.loop _ _ env'' ps' as' bd') =>
              some (.bool (x = .normal), st'.H.set l (.loop (if x = .normal then .ready else .done) x env'' ps' as' bd'), min st'.low l)
            | _ => none
          | none => none
        | _ => none
      | _ => none
    else none
  | _ => none

def callV (tab : Nat → Option Fun) (call : CallT) (n : Nat) : CallT := fun f args H =>
  match f with
  | .fn i first caps => match tab i with
    | some (.code fn) => callBody (exec call n) fn (first ++ args ++ caps) H
    | some (.ext spec) => if isPs (first ++ args ++ caps) then (spec (first ++ args ++ caps)).map fun v => (v, H, H.length) else none
    | none => none
  | .yield l => yieldBody (exec call n) l args H
  | _ => none

def callN (tab : Nat → Option Fun) : Nat → CallT
  | 0 => fun _ _ _ => none
  | n + 1 => callV tab (callN tab n) n

end Go.Abs
/- From the program's code to the simplified code: the types' sizes and zero values are looked up here, once. -/
namespace Go.Abs
open Go

mutual
def constV : Value → Option V
  | .bool b => some (.bool b)
  | .int k n => some (.int k n)
  | .string s => some (.str s.data.toList)
  | .pointer none => some .nilp
  | .slice none 0 0 => some .nil0
  | .map none => some .nilm
  | .nilFunc => some .nilf
  | .nilIface => some .nili
  | .agg ⟨vs⟩ => (constVs vs).map .agg
  | .tuple ⟨[]⟩ => some .undef
  | _ => none
def constVs : List Value → Option (List V)
  | [] => some []
  | v :: r => match constV v with
    | some v' => if isU v' then none else (constVs r).map (v' :: ·)
    | none => none
end

def mapO {α β : Type} (f : α → Option β) : List α → Option (List β)
  | [] => some []
  | a :: r => match f a with
    | some b => match mapO f r with
      | some bs => some (b :: bs)
      | none => none
    | none => none

structure Ctx where
  P : Program
  fidx : Nat → Option Nat
  im : String → Bool := fun _ => true
  raw : Nat → Bool := fun _ => false
  glob : Nat → Option Obj := fun _ => none

namespace Ctx
variable (C : Ctx)

def sizeOf (t : Nat) : Option Nat := (C.P.info? t).map (·.size)
def zeroCells (t : Nat) : Option (List V) := match C.P.info? t with
  | some i => match i.zero with
    | some z => match constVs z.cells.toList with
      | some vs => if cellsOk vs then some vs else none
      | none => none
    | none => none
  | none => none
def zeroV (t : Nat) : Option V := match C.P.info? t with
  | some i => match i.zero with
    | some z => constV z
    | none => none
  | none => none
def shapeOf (t : Nat) : Option (Option Nat) := match C.P.underlying t with
  | some (.struct _) | some (.array _ _) => (C.sizeOf t).map some
  | some _ => some none
  | none => none
def scalarT (t : Nat) : Bool := match C.P.underlying t with
  | some (.int _) | some .string | some .bool => true
  | _ => false

def opd (vars : List Nat) : Operand → Option Opd
  | .tmp t => some (if vars.contains t then .var t else .tmp t)
  | .const v => (constV v).map .const
  | .func f => (C.fidx f).map .func
  | .global _ => none
def opdO (vars : List Nat) : Option Operand → Option (Option Opd)
  | none => some none
  | some x => (C.opd vars x).map some

def kindT (t : Nat) : Option Nat := match C.P.underlying t with
  | some (.int _) => some 0
  | some .string => some 1
  | some .bool => some 2
  | _ => none

def eqKinds (i : Nat) : List Field → Option (List Nat)
  | [] => some []
  | f :: fs => match C.kindT f.type with
    | some k => if f.name != "_" && f.offset == i then (eqKinds (i + 1) fs).map (k :: ·) else none
    | none => none

def structEq (t : Nat) : Option (List Nat) := match C.P.underlying t with
  | some (.struct fs) => if !C.P.stoodInHeld t && !C.P.eqGuardType C.P.depth t then C.eqKinds 0 fs.toList else none
  | _ => none

def isNilConst : Opd → Bool
  | .const .nili => true
  | _ => false

def nilKind (d : TypeDesc) (x y : Opd) (plain : AOp) (neg : Bool) : Option AOp :=
  match d with
  | .int _ | .string => some plain
  | .pointer _ => some (.nilEq 0 neg x y)
  | .slice _ => some (.nilEq 1 neg x y)
  | .func .. => some (.nilEq 2 neg x y)
  | .interface _ => if isNilConst y then some (.nilEq 3 neg x y) else none
  | .bool => some (.nilEq 4 neg x y)
  | _ => none

def builtin (vars : List Nat) (b : Builtin) (args : Array Operand) (ts : Array TypeId) : Option AOp :=
  match b, args.toList, ts.toList with
  | .len, [x], [t] => match C.P.underlying t with
    | some .string => (C.opd vars x).map (.len 0)
    | some (.slice _) => (C.opd vars x).map (.len 1)
    | some (.map _ _) => (C.opd vars x).map (.len 2)
    | _ => none
  | .append, [a, b], [t, u] => match C.P.underlying t, C.P.underlying u with
    | some (.slice e), some (.slice _) => match C.P.info? e, C.opd vars a, C.opd vars b with
      | some i, some a, some b => if i.size = 0 || i.zero.map (·.cells.size) != some i.size then none else some (.append i.size i.bytes a b)
      | _, _, _ => none
    | _, _ => none
  | .max, [a, b], _ => match C.opd vars a, C.opd vars b with
    | some a, some b => some (.minmax true a b)
    | _, _ => none
  | .copy, [a, b], [t, u] => match C.P.underlying t, C.P.underlying u with
    | some (.slice e), some (.slice _) => match C.sizeOf e, C.opd vars a, C.opd vars b with
      | some n, some a, some b => if n = 0 then none else some (.copy n a b)
      | _, _, _ => none
    | _, _ => none
  | .min, [a, b], _ => match C.opd vars a, C.opd vars b with
    | some a, some b => some (.minmax false a b)
    | _, _ => none
  | _, _, _ => none

def op0 (vars : List Nat) (pos : String) : Op → Option AOp
  | .move x | .assign x => (C.opd vars x).map .mv
  | .pick c a b => match C.opd vars c, C.opd vars a, C.opd vars b with
    | some c, some a, some b => some (.pick c a b)
    | _, _, _ => none
  | .alloc t => (C.zeroCells t).map .alloc
  | .box _ x => (C.opd vars x).map .box
  | .build t parts => match C.P.underlying t, C.zeroCells t with
    | some (.struct fs), some z => if fs.toList.any (fun f => (C.sizeOf f.type).isNone) then none else (mapO (fun (p : Nat × Operand) => match fs[p.1]? with
        | some f => match C.sizeOf f.type, C.opd vars p.2 with
          | some n, some x => some (f.offset, n, x)
          | _, _ => none
        | none => none) parts.toList).map (.build z)
    | some (.array _ e), some z => match C.sizeOf e with
      | some n => (mapO (fun (p : Nat × Operand) => match C.opd vars p.2 with
          | some x => some (p.1 * n, n, x)
          | none => none) parts.toList).map (.build z)
      | none => none
    | _, _ => none
  | .buildSlice t len parts => match C.P.underlying t with
    | some (.slice e) => match C.sizeOf e, C.zeroCells e, mapO (fun (p : Nat × Operand) => (C.opd vars p.2).map fun x => (p.1, x)) parts.toList with
      | some n, some z, some ps => if n = 0 ∨ len * n > 2 ^ 24 ∨ z.length ≠ n then none else some (.lit n z len ps (match C.P.underlying e with | some (.func ..) => false | _ => C.im pos))
      | _, _, _ => none
    | _ => none
  | .load t a => match C.shapeOf t, C.opd vars a with
    | some sh, some a => some (.load sh a)
    | _, _ => none
  | .store t a x => match C.sizeOf t, C.opd vars a, C.opd vars x with
    | some n, some a, some x => some (.store n a x)
    | _, _, _ => none
  | .nilCheck x => (C.opd vars x).map .nilCheck
  | .binOp o t x y _ => match C.opd vars x, C.opd vars y with
    | some x, some y => match o, C.P.underlying t with
      | .eql, some (.struct _) => (C.structEq t).map fun n => .eqAgg false n x y
      | .neq, some (.struct _) => (C.structEq t).map fun n => .eqAgg true n x y
      | .eql, some d => nilKind d x y (.bin .eql x y) false
      | .neq, some d => nilKind d x y (.bin .neq x y) true
      | .eql, none | .neq, none => none
      | _, _ => some (.bin o x y)
    | _, _ => none
  | .unOp o _ x => (C.opd vars x).map (.un o)
  | .convert s d x => match C.P.underlying s, C.P.underlying d, C.opd vars x with
    | some (.int _), some (.int k), some x => some (.conv k x)
    | _, _, _ => none
  | .makeInterface t x => match C.P.underlying t, C.opd vars x with
    | some (.interface _), _ => none
    | some _, some x => some (.mkIface t x)
    | _, _ => none
  | .makeFunc (.func f) a b => match C.fidx f, mapO (C.opd vars) a.toList, mapO (C.opd vars) b.toList with
    | some i, some a, some b => some (.mkFn i a b)
    | _, _, _ => none
  | .makeMap _ none => some .mkMap
  | .makeSlice t l c => match C.P.underlying t with
    | some (.slice e) => match C.P.info? e, C.zeroCells e, C.opd vars l, C.opd vars c with
      | some i, some z, some l, some c => if i.size = 0 ∨ z.length ≠ i.size then none else some (.mkSlice i.size z i.bytes l c)
      | _, _, _, _ => none
    | _ => none
  | .slice t x lo hi mx => match C.P.underlying t, C.opd vars x, C.opdO vars lo, C.opdO vars hi, C.opdO vars mx with
    | some .string, some x, some lo, some hi, some none => some (.sliceS x lo hi)
    | some (.slice e), some x, some lo, some hi, some mx => match C.sizeOf e with
      | some n => if n = 0 || (hi.isNone && mx.isSome) then none else some (.sliceL n x lo hi mx)
      | none => none
    | _, _, _, _, _ => none
  | .fieldAddr s x f => match C.P.underlying s, C.opd vars x with
    | some (.struct fs), some x => match fs[f]? with
      | some fl => match C.sizeOf fl.type with
        | some n => if n = 0 then none else some (.fieldAddr fl.offset x)
        | none => none
      | none => none
    | _, _ => none
  | .field s x f => match C.P.underlying s, C.opd vars x with
    | some (.struct fs), some x => match fs[f]? with
      | some fl => (C.shapeOf fl.type).map fun sh => .field fl.offset sh x
      | none => none
    | _, _ => none
  | .indexAddr t x i => match C.P.underlying t, C.opd vars x, C.opd vars i with
    | some (.slice e), some x, some i => match C.sizeOf e with
      | some n => if n = 0 then none else some (.indexAddr n x i)
      | none => none
    | _, _, _ => none
  | .index t x i => match C.P.underlying t, C.opd vars x, C.opd vars i with
    | some .string, some x, some i => some (.indexS x i)
    | _, _, _ => none
  | .lookup t x i ok => match C.P.underlying t, C.opd vars x, C.opd vars i with
    | some (.map k e), some x, some i => match C.kindT k, C.zeroV e with
      | some kd, some z => if isU z then none else some (.lookup kd z x i ok)
      | _, _ => none
    | _, _, _ => none
  | .mapUpdate t m k v => match C.P.underlying t, C.opd vars m, C.opd vars k, C.opd vars v with
    | some (.map kt _), some m, some k, some v => (C.kindT kt).map fun kd => .mapUpd kd m k v
    | _, _, _, _ => none
  | .insert t m k v => match C.P.underlying t, C.opd vars m, C.opd vars k, C.opd vars v with
    | some (.map kt _), some m, some k, some v => (C.kindT kt).map fun kd => .mapUpd kd m k v
    | _, _, _, _ => none
  | .extract x i => (C.opd vars x).map fun x => .extract x i
  | .call { callee := .value f, args, .. } => match C.opd vars f, mapO (C.opd vars) args.toList with
    | some f, some as => some (.call (match f with | .func i => C.raw i | _ => false) f as)
    | _, _ => none
  | .call { callee := .builtin b, args, argTypes } => C.builtin vars b args argTypes
  | _ => none

/-- What is not served stops the executor where it comes there. -/
def op (vars : List Nat) (pos : String) (o : Op) : AOp := (C.op0 vars pos o).getD .fail

def guard (vars : List Nat) (ops : Array Oper) : Option (Nat × Bool) → Option (Option (Opd × Bool))
  | none => some none
  | some (j, want) => match (ops[j]?).bind (·.dst) with
    | some d => some (some (if vars.contains d then .var d else .tmp d, want))
    | none => none

def oper (vars : List Nat) (n : Nat) (ops : Array Oper) (o : Oper) : Option AOper :=
  match guard vars ops o.guard with
  | some g => match o.dst with
    | none => some { dst := none, op := C.op vars o.pos o.op, guard := g }
    | some d => if d < n then some { dst := some (d, vars.contains d), op := C.op vars o.pos o.op, guard := g } else none
  | none => none

/-- Edges look back, but those of the compiler's order alone. -/
def plainEdges (ops : Array Oper) : Bool :=
  ops.toList.zipIdx.all fun (o, i) => o.after.all fun e => match e.ground with | .gcOnly _ => true | _ => decide (e.on < i)

def tmpsOf (xs : Array Operand) : List Nat := xs.toList.filterMap fun | .tmp t => some t | _ => none

/-- The slots that an operation reads. -/
def slots (ops : Array Oper) (o : Oper) : List Nat :=
  tmpsOf o.op.operands ++ (match o.guard with | some (j, _) => ((ops[j]?).bind (·.dst)).toList | none => [])

/-- Who writes a slot stands in order with whoever names it. -/
def apartOk (ops : Array Oper) : Bool :=
  let b := CheckFast.beforeF ops
  ops.toList.zipIdx.all fun (o, j) => ops.toList.zipIdx.all fun (p, i) =>
    match p.dst with
    | none => true
    | some d => i == j || !(o.dst == some d || (slots ops o).contains d) || (b.getD (max i j) 0).testBit (min i j)

def seesOk (ops : Array Oper) (o : Oper) (a : AOper) : Bool :=
  a.op.operands.all fun
    | .tmp t | .var t => (slots ops o).contains t
    | _ => true

def code (vars : List Nat) (n : Nat) : Code → Option ACode
  | .skip => some .skip
  | .region _ ops draw => match mapO (C.oper vars n ops) ops.toList with
    | some aops =>
      if !draw then some (.region aops none)
      else if plainEdges ops && apartOk ops && (ops.toList.zip aops).all (fun (o, a) => seesOk ops o a) then some (.region aops (some (CheckFast.beforeF ops).toList)) else none
    | none => none
  | .seq a b => match code vars n a, code vars n b with
    | some a, some b => some (.seq a b)
    | _, _ => none
  | .cond c t e => match C.opd vars c, code vars n t, code vars n e with
    | some c, some t, some e => some (.cond c t e)
    | _, _, _ => none
  | .block id c => (code vars n c).map (.block id)
  | .loop c => (code vars n c).map .loop
  | .rangeFunc f ps a b => match C.opd vars f, code vars n a, code vars n b with
    | some f, some a, some b => if ps.all (fun t => decide (t < n) && vars.contains t) then some (.rangeFunc f ps.toList a b) else none
    | _, _, _ => none
  | .exit id => some (.exit id)
  | .ret => some .ret
  | _ => some .fail

/-- Slots that are read in a region ahead of any write there, or outside of regions. -/
def exposed : Code → List Nat
  | .region _ ops _ => (ops.toList.foldl (fun (acc : List Nat × List Nat) o =>
      let g := match o.guard with | some (j, _) => ((ops[j]?).bind (·.dst)).toList | none => []
      let reads := (g ++ tmpsOf o.op.operands).filter fun t => !acc.2.contains t
      (acc.1 ++ reads, o.dst.toList ++ acc.2)) ([], [])).1
  | .seq a b => exposed a ++ exposed b
  | .cond c t e => tmpsOf #[c] ++ exposed t ++ exposed e
  | .block _ c | .loop c => exposed c
  | .rangeFunc f ps a b => tmpsOf #[f] ++ ps.toList ++ exposed a ++ exposed b
  | _ => []

def res : ResultVar → Option ARes
  | .tmp t => some (.tmp t)
  | .cell a t => (C.shapeOf t).map (.cell a)

def resSlots : List ResultVar → List Nat
  | [] => []
  | .tmp t :: r => t :: resSlots r
  | .cell a _ :: r => a :: resSlots r

def varsOf (f : Func) : List Nat :=
  ((List.range (f.params.size + f.nfree) ++ resSlots f.results.toList ++ (match f.body with | some c => exposed c | none => [])).eraseDups)

def func (f : Func) (fresh : Bool) : Option AFunc :=
  match f.body with
  | some c => match C.code (varsOf f) f.ntmps c, mapO C.res f.results.toList with
    | some b, some rs => if f.name == "runtime.NumGoroutine" then none else some { nslots := f.ntmps, body := b, results := rs, fresh }
    | _, _ => none
  | none => none
end Ctx

end Go.Abs
/- More fuel changes no answer; the executor without a limit. Nothing here speaks of the real memory. -/
namespace Go.Abs

def CallLe (a b : CallT) : Prop := ∀ f args H r, a f args H = some r → b f args H = some r

variable {call call' : CallT}

theorem stepC_mono (h : CallLe call call') {ev : Opd → V} {H : Heap} {low : Nat} {op : AOp} {r : V × Heap × Nat} (he : stepC call ev H low op = some r) : stepC call' ev H low op = some r := by
  cases op with
  | call raw f args =>
    cases raw
    · simp only [stepC] at he ⊢
      split at he
      · rename_i vs H1 low1 h1
        split at he
        · rename_i u H2 l h2
          rw [h _ _ _ _ h2]
          exact he
        · cases he
      · cases he
    · simp only [stepC] at he ⊢
      split at he
      · rename_i u H2 l h2
        rw [h _ _ _ _ h2]
        exact he
      · cases he
  | _ => exact he

theorem execOps_mono (h : CallLe call call') : ∀ (ops : List AOper) (st : St) (wr : List Bool) (r : St × List Bool), execOps call ops st wr = some r → execOps call' ops st wr = some r
  | [], st, wr, r, he => he
  | o :: ops, st, wr, r, he => by
    simp only [execOps] at he ⊢
    split at he
    · rename_i hw
      try simp only [hw]
      split at he
      · rename_i v H' low' h1
        rw [stepC_mono h h1]
        exact execOps_mono h ops _ _ _ he
      · cases he
    · rename_i hw
      try simp only [hw]
      exact execOps_mono h ops _ _ _ he
    · cases he

theorem traceOps_mono (h : CallLe call call') : ∀ (ops : List AOper) (st : St) (r : List St), traceOps call ops st = some r → traceOps call' ops st = some r
  | [], st, r, he => he
  | o :: ops, st, r, he => by
    simp only [traceOps] at he ⊢
    split at he
    · rename_i hw
      try simp only [hw]
      split at he
      · rename_i v H' low' h1
        rw [stepC_mono h h1]
        obtain ⟨x, hx, rfl⟩ := Option.map_eq_some_iff.1 he
        simp only []
        rw [traceOps_mono h ops _ _ hx]; rfl
      · cases he
    · rename_i hw
      try simp only [hw]
      obtain ⟨x, hx, rfl⟩ := Option.map_eq_some_iff.1 he
      rw [traceOps_mono h ops _ _ hx]; rfl
    · cases he

theorem stable_mono (h : CallLe call call') {q : AOper × St × Heap} (he : stable call q = true) : stable call' q = true := by
  unfold stable at he ⊢
  split at he
  · rename_i hw; try simp only [hw]
  · rename_i hw
    try simp only [hw]
    split at he
    · rename_i v H1 low1 h1
      rw [stepC_mono h h1]
      simp only []
      split at he
      · rename_i v2 H2 low2 h2
        rw [stepC_mono h h2]
        exact he
      · cases he
    · cases he
  · cases he

theorem movesOk_mono (h : CallLe call call') {bef : List Nat} {ops : List AOper} {wr : List Bool} {st : St} (he : movesOk call bef ops wr st = true) : movesOk call' bef ops wr st = true := by
  unfold movesOk at he ⊢
  split at he
  · rename_i tr ht
    rw [traceOps_mono h _ _ _ ht]
    simp only [Bool.and_eq_true, List.all_eq_true] at he ⊢
    exact ⟨he.1, fun q hq => stable_mono h (he.2 q hq)⟩
  · cases he

theorem iter_mono {f f' : St → Option (X × St)} (h : ∀ st r, f st = some r → f' st = some r) : ∀ (n m : Nat) (st : St) (r : X × St), n ≤ m → iter f n st = some r → iter f' m st = some r
  | 0, _, _, _, _, he => by cases he
  | n + 1, 0, _, _, hle, _ => by omega
  | n + 1, m + 1, st, r, hle, he => by
    simp only [iter] at he ⊢
    split at he
    · rename_i st1 h1
      rw [h _ _ h1]
      exact iter_mono h n m _ _ (by omega) he
    · rename_i hne
      rw [h _ _ he]
      split
      · rename_i st' e; cases e; exact absurd he (hne _)
      · rfl

theorem exec_mono (h : CallLe call call') {n m : Nat} (hle : n ≤ m) : ∀ (c : ACode) (st : St) (r : X × St), exec call n c st = some r → exec call' m c st = some r
  | .skip, st, r, he => he
  | .region ops bef, st, r, he => by
    simp only [exec, St.closed_eq] at he ⊢
    split at he
    · rename_i st1 wr h1
      rw [execOps_mono h _ _ _ _ h1]
      cases bef with
      | none => exact he
      | some b =>
        simp only at he ⊢
        split at he
        · rename_i hb
          rw [if_pos]
          · exact he
          · simp only [Bool.or_eq_true] at hb ⊢
            exact hb.imp id (movesOk_mono h)
        · cases he
    · cases he
  | .seq a b, st, r, he => by
    simp only [exec, St.closed_eq] at he ⊢
    split at he
    · rename_i st1 h1
      rw [exec_mono h hle a _ _ h1]
      exact exec_mono h hle b _ _ he
    · rename_i hne
      rw [exec_mono h hle a _ _ he]
      split
      · rename_i st1 e; cases e; exact absurd he (hne _)
      · rfl
  | .cond c t e, st, r, he => by
    simp only [exec, St.closed_eq] at he ⊢
    split at he
    · exact exec_mono h hle t _ _ he
    · exact exec_mono h hle e _ _ he
    · cases he
  | .block id c, st, r, he => by
    simp only [exec, St.closed_eq] at he ⊢
    split at he
    · rename_i id' st1 h1
      rw [exec_mono h hle c _ _ h1]
      exact he
    · rename_i hne
      rw [exec_mono h hle c _ _ he]
      split
      · rename_i id' st1 e; cases e; exact absurd he (hne _ _)
      · rfl
  | .loop c, st, r, he => by
    simp only [exec, St.closed_eq] at he ⊢
    exact iter_mono (fun st r hr => exec_mono h hle c st r hr) n m st r hle he
  | .rangeFunc f ps a b, st, r, he => by
    simp only [exec, St.closed_eq] at he ⊢
    split at he
    · cases he
    · rename_i hc
      try rw [if_neg hc]
      split at he
      · rename_i u H1 low1 h1
        rw [h _ _ _ _ h1]
        exact he
      · cases he
  | .exit id, st, r, he => he
  | .ret, st, r, he => he
  | .fail, st, r, he => he

def ExLe (ex ex' : ACode → St → Option (X × St)) : Prop := ∀ c st r, ex c st = some r → ex' c st = some r

theorem callBody_mono {ex ex' : ACode → St → Option (X × St)} (h : ExLe ex ex') {f : AFunc} {args : List V} {H : Heap} {r : V × Heap × Nat} (he : callBody ex f args H = some r) : callBody ex' f args H = some r := by
  unfold callBody at he ⊢
  split at he
  · rename_i hl
    rw [if_pos hl]
    split at he
    · rename_i st h1; rw [h _ _ _ h1]; exact he
    · rename_i st h1; rw [h _ _ _ h1]; exact he
    · cases he
  · cases he

theorem yieldBody_mono {ex ex' : ACode → St → Option (X × St)} (h : ExLe ex ex') {l : Nat} {args : List V} {H : Heap} {r : V × Heap × Nat} (he : yieldBody ex l args H = some r) : yieldBody ex' l args H = some r := by
  unfold yieldBody at he ⊢
  split at he
  · split at he
    · rename_i hl
      simp only [hl, if_true]
      split at he
      · rename_i st h1
        simp only [h _ _ _ h1]
        split at he
        · rename_i h2
          try simp only [h2]
          split at he
          · rename_i h3
            simp only [h _ _ _ h3]
            exact he
          · cases he
        · cases he
      · cases he
    · cases he
  · cases he

theorem callN_step (tab : Nat → Option Fun) : ∀ n, CallLe (callN tab n) (callN tab (n + 1))
  | 0 => fun f args H r he => by simp [callN] at he
  | n + 1 => fun f args H r he => by
    have hx : ExLe (exec (callN tab n) n) (exec (callN tab (n + 1)) (n + 1)) := fun c st r hr => exec_mono (callN_step tab n) (Nat.le_succ n) c st r hr
    show callV tab (callN tab (n + 1)) (n + 1) f args H = some r
    change callV tab (callN tab n) n f args H = some r at he
    unfold callV at he ⊢
    split at he
    · split at he
      · rename_i h1; try simp only [h1]
        exact callBody_mono hx he
      · rename_i h1; try simp only [h1]
        exact he
      · cases he
    · exact yieldBody_mono hx he
    · cases he

theorem callN_mono (tab : Nat → Option Fun) {n : Nat} : ∀ {m : Nat}, n ≤ m → CallLe (callN tab n) (callN tab m)
  | 0, h => by have : n = 0 := by omega
               subst this; exact fun _ _ _ _ h => h
  | m + 1, h => by
    rcases Nat.lt_or_ge n (m + 1) with h1 | h1
    · exact fun f args H r he => callN_step tab m f args H r (callN_mono tab (m := m) (by omega) f args H r he)
    · have : n = m + 1 := by omega
      subst this; exact fun _ _ _ _ h => h

/-! ### without a limit -/

open Classical in
noncomputable def callL (tab : Nat → Option Fun) : CallT := fun f args H => if h : ∃ r n, callN tab n f args H = some r then some h.choose else none

open Classical in
noncomputable def execL (tab : Nat → Option Fun) (c : ACode) (st : St) : Option (X × St) := if h : ∃ r n, exec (callN tab n) n c st = some r then some h.choose else none

variable {tab : Nat → Option Fun}

theorem callL_iff {f : V} {args : List V} {H : Heap} {r : V × Heap × Nat} : callL tab f args H = some r ↔ ∃ n, callN tab n f args H = some r := by
  unfold callL
  constructor
  · intro h
    split at h
    · rename_i hex; cases h; exact hex.choose_spec
    · cases h
  · rintro ⟨n, hn⟩
    have hex : ∃ r n, callN tab n f args H = some r := ⟨r, n, hn⟩
    rw [dif_pos hex]
    obtain ⟨m, hm⟩ := hex.choose_spec
    have a := callN_mono tab (Nat.le_max_left n m) _ _ _ _ hn
    have b := callN_mono tab (Nat.le_max_right n m) _ _ _ _ hm
    rw [a] at b
    exact b.symm

theorem exec_up {n m : Nat} (hle : n ≤ m) {c : ACode} {st : St} {r : X × St} (h : exec (callN tab n) n c st = some r) : exec (callN tab m) m c st = some r := exec_mono (callN_mono tab hle) hle c st r h

theorem execL_iff {c : ACode} {st : St} {r : X × St} : execL tab c st = some r ↔ ∃ n, exec (callN tab n) n c st = some r := by
  unfold execL
  constructor
  · intro h
    split at h
    · rename_i hex; cases h; exact hex.choose_spec
    · cases h
  · rintro ⟨n, hn⟩
    have hex : ∃ r n, exec (callN tab n) n c st = some r := ⟨r, n, hn⟩
    rw [dif_pos hex]
    obtain ⟨m, hm⟩ := hex.choose_spec
    have a := exec_up (Nat.le_max_left n m) hn
    have b := exec_up (Nat.le_max_right n m) hm
    rw [a] at b
    exact b.symm

theorem callN_le_L (n : Nat) : CallLe (callN tab n) (callL tab) := fun _ _ _ _ h => callL_iff.2 ⟨n, h⟩

theorem opt_ext {α : Type} {a b : Option α} (h : ∀ r, a = some r ↔ b = some r) : a = b := by
  cases a with
  | none => cases b with
    | none => rfl
    | some y => exact absurd ((h y).2 rfl) (by simp)
  | some x => exact ((h x).1 rfl).symm

theorem stepC_lim {ev : Opd → V} {H : Heap} {low : Nat} {op : AOp} {r : V × Heap × Nat} : stepC (callL tab) ev H low op = some r ↔ ∃ n, stepC (callN tab n) ev H low op = some r := by
  constructor
  · intro he
    cases op with
    | call raw f args =>
      cases raw
      · simp only [stepC] at he ⊢
        split at he
        · rename_i vs H1 low1 h1
          split at he
          · rename_i u H2 l h2
            obtain ⟨n, hn⟩ := callL_iff.1 h2
            exact ⟨n, by rw [hn]; exact he⟩
          · cases he
        · cases he
      · simp only [stepC] at he ⊢
        split at he
        · rename_i u H2 l h2
          obtain ⟨n, hn⟩ := callL_iff.1 h2
          exact ⟨n, by rw [hn]; exact he⟩
        · cases he
    | _ => exact ⟨0, he⟩
  · rintro ⟨n, hn⟩; exact stepC_mono (callN_le_L n) hn

theorem execOps_lim : ∀ (ops : List AOper) (st : St) (wr : List Bool) (r : St × List Bool), execOps (callL tab) ops st wr = some r → ∃ n, execOps (callN tab n) ops st wr = some r
  | [], st, wr, r, he => ⟨0, he⟩
  | o :: ops, st, wr, r, he => by
    simp only [execOps] at he ⊢
    split at he
    · rename_i hw
      split at he
      · rename_i v H' low' h1
        obtain ⟨n, hn⟩ := stepC_lim.1 h1
        obtain ⟨m, hm⟩ := execOps_lim ops _ _ _ he
        refine ⟨max n m, ?_⟩
        rw [stepC_mono (callN_mono tab (Nat.le_max_left n m)) hn]
        exact execOps_mono (callN_mono tab (Nat.le_max_right n m)) ops _ _ _ hm
      · cases he
    · rename_i hw
      obtain ⟨m, hm⟩ := execOps_lim ops _ _ _ he
      exact ⟨m, hm⟩
    · cases he

/-! ### the equations -/

theorem execL_skip (st : St) : execL tab .skip st = some (.normal, st) := execL_iff.2 ⟨0, rfl⟩
theorem execL_exit (id : Nat) (st : St) : execL tab (.exit id) st = some (.exit id, st) := execL_iff.2 ⟨0, rfl⟩
theorem execL_ret (st : St) : execL tab .ret st = some (.ret, st) := execL_iff.2 ⟨0, rfl⟩

theorem traceOps_lim : ∀ (ops : List AOper) (st : St) (r : List St), traceOps (callL tab) ops st = some r → ∃ n, traceOps (callN tab n) ops st = some r
  | [], st, r, he => ⟨0, he⟩
  | o :: ops, st, r, he => by
    simp only [traceOps] at he ⊢
    split at he
    · rename_i hw
      split at he
      · rename_i v H' low' h1
        obtain ⟨n, hn⟩ := stepC_lim.1 h1
        obtain ⟨x, hx, rfl⟩ := Option.map_eq_some_iff.1 he
        obtain ⟨m, hm⟩ := traceOps_lim ops _ _ hx
        refine ⟨max n m, ?_⟩
        rw [stepC_mono (callN_mono tab (Nat.le_max_left n m)) hn]
        simp only []
        rw [traceOps_mono (callN_mono tab (Nat.le_max_right n m)) ops _ _ hm]; rfl
      · cases he
    · rename_i hw
      obtain ⟨x, hx, rfl⟩ := Option.map_eq_some_iff.1 he
      obtain ⟨m, hm⟩ := traceOps_lim ops _ _ hx
      exact ⟨m, by rw [hm]; rfl⟩
    · cases he

theorem stable_lim {q : AOper × St × Heap} (he : stable (callL tab) q = true) : ∃ n, stable (callN tab n) q = true := by
  unfold stable at he ⊢
  split at he
  · rename_i hw; exact ⟨0, by try simp only [hw]⟩
  · rename_i hw
    try simp only [hw]
    split at he
    · rename_i v H1 low1 h1
      split at he
      · rename_i v2 H2 low2 h2
        obtain ⟨n, hn⟩ := stepC_lim.1 h1
        obtain ⟨m, hm⟩ := stepC_lim.1 h2
        refine ⟨max n m, ?_⟩
        rw [stepC_mono (callN_mono tab (Nat.le_max_left n m)) hn, stepC_mono (callN_mono tab (Nat.le_max_right n m)) hm]
        exact he
      · cases he
    · cases he
  · cases he

theorem stables_lim : ∀ (l : List (AOper × St × Heap)), l.all (stable (callL tab)) = true → ∃ n, l.all (stable (callN tab n)) = true
  | [], _ => ⟨0, rfl⟩
  | q :: l, he => by
    simp only [List.all_cons, Bool.and_eq_true] at he
    obtain ⟨n, hn⟩ := stable_lim he.1
    obtain ⟨m, hm⟩ := stables_lim l he.2
    refine ⟨max n m, ?_⟩
    simp only [List.all_cons, Bool.and_eq_true]
    refine ⟨stable_mono (callN_mono tab (Nat.le_max_left n m)) hn, ?_⟩
    rw [List.all_eq_true] at hm ⊢
    exact fun q hq => stable_mono (callN_mono tab (Nat.le_max_right n m)) (hm q hq)

theorem movesOk_lim {bef : List Nat} {ops : List AOper} {wr : List Bool} {st : St} (he : movesOk (callL tab) bef ops wr st = true) : ∃ n, movesOk (callN tab n) bef ops wr st = true := by
  unfold movesOk at he
  split at he
  · rename_i tr ht
    simp only [Bool.and_eq_true] at he
    obtain ⟨n, hn⟩ := traceOps_lim _ _ _ ht
    obtain ⟨m, hm⟩ := stables_lim _ he.2
    refine ⟨max n m, ?_⟩
    unfold movesOk
    rw [traceOps_mono (callN_mono tab (Nat.le_max_left n m)) _ _ _ hn]
    simp only [Bool.and_eq_true]
    refine ⟨he.1, ?_⟩
    rw [List.all_eq_true] at hm ⊢
    exact fun q hq => stable_mono (callN_mono tab (Nat.le_max_right n m)) (hm q hq)
  · cases he

theorem execL_region (ops : List AOper) (bef : Option (List Nat)) (st : St) : execL tab (.region ops bef) st = match execOps (callL tab) ops { st with tE := [] } [] with
    | some (st', wr) => match bef with
      | none => some (.normal, { st' with tE := [] })
      | some b => if inOrder b ops wr || movesOk (callL tab) b ops wr { st with tE := [] } then some (.normal, { st' with tE := [] }) else none
    | none => none := by
  refine opt_ext fun r => ?_
  rw [execL_iff]
  constructor
  · rintro ⟨n, hn⟩
    simp only [exec, St.closed_eq] at hn
    split at hn
    · rename_i st1 wr h1
      rw [execOps_mono (callN_le_L n) _ _ _ _ h1]
      cases bef with
      | none => exact hn
      | some b =>
        simp only at hn ⊢
        split at hn
        · rename_i hb
          rw [if_pos]
          · exact hn
          · simp only [Bool.or_eq_true] at hb ⊢
            exact hb.imp id (movesOk_mono (callN_le_L n))
        · cases hn
    · cases hn
  · intro h
    split at h
    · rename_i st1 wr h1
      obtain ⟨n, hn⟩ := execOps_lim _ _ _ _ h1
      cases bef with
      | none => exact ⟨n, by simp only [exec, St.closed_eq]; rw [hn]; exact h⟩
      | some b =>
        simp only at h
        split at h
        · rename_i hb
          simp only [Bool.or_eq_true] at hb
          rcases hb with hb | hb
          · exact ⟨n, by simp only [exec, St.closed_eq]; rw [hn]; simp only []; rw [hb]; exact h⟩
          · obtain ⟨m, hm⟩ := movesOk_lim hb
            refine ⟨max n m, ?_⟩
            simp only [exec, St.closed_eq]
            rw [execOps_mono (callN_mono tab (Nat.le_max_left n m)) _ _ _ _ hn]
            simp only []
            rw [movesOk_mono (callN_mono tab (Nat.le_max_right n m)) hm, Bool.or_true]
            exact h
        · cases h
    · cases h

theorem execL_seq (a b : ACode) (st : St) : execL tab (.seq a b) st = match execL tab a st with
    | some (.normal, st') => execL tab b st'
    | r => r := by
  refine opt_ext fun r => ?_
  rw [execL_iff]
  constructor
  · rintro ⟨n, hn⟩
    simp only [exec, St.closed_eq] at hn
    split at hn
    · rename_i st1 h1
      rw [execL_iff.2 ⟨n, h1⟩]
      exact execL_iff.2 ⟨n, hn⟩
    · rename_i hne
      rw [execL_iff.2 ⟨n, hn⟩]
      split
      · rename_i st1 e; cases e; exact absurd hn (hne _)
      · rfl
  · intro h
    split at h
    · rename_i st1 h1
      obtain ⟨n, hn⟩ := execL_iff.1 h1
      obtain ⟨m, hm⟩ := execL_iff.1 h
      exact ⟨max n m, by simp only [exec, St.closed_eq]; rw [exec_up (Nat.le_max_left n m) hn]; exact exec_up (Nat.le_max_right n m) hm⟩
    · rename_i hne
      obtain ⟨n, hn⟩ := execL_iff.1 h
      refine ⟨n, ?_⟩
      simp only [exec, St.closed_eq]
      rw [hn]
      split
      · rename_i st1 e; cases e; exact absurd h (hne _)
      · rfl

theorem execL_cond (c : Opd) (t e : ACode) (st : St) : execL tab (.cond c t e) st = match c.ev st.tE st.vE with
    | .bool true => execL tab t st
    | .bool false => execL tab e st
    | _ => none := by
  refine opt_ext fun r => ?_
  rw [execL_iff]
  constructor
  · rintro ⟨n, hn⟩
    simp only [exec, St.closed_eq] at hn
    split at hn
    · rename_i hc
      try simp only [hc]
      exact execL_iff.2 ⟨n, hn⟩
    · rename_i hc
      try simp only [hc]
      exact execL_iff.2 ⟨n, hn⟩
    · cases hn
  · intro h
    split at h
    · rename_i hc
      obtain ⟨n, hn⟩ := execL_iff.1 h
      exact ⟨n, by simp only [exec, hc]; exact hn⟩
    · rename_i hc
      obtain ⟨n, hn⟩ := execL_iff.1 h
      exact ⟨n, by simp only [exec, hc]; exact hn⟩
    · cases h

theorem execL_block (id : Nat) (c : ACode) (st : St) : execL tab (.block id c) st = match execL tab c st with
    | some (.exit id', st') => if id' = id then some (.normal, st') else some (.exit id', st')
    | r => r := by
  refine opt_ext fun r => ?_
  rw [execL_iff]
  constructor
  · rintro ⟨n, hn⟩
    simp only [exec, St.closed_eq] at hn
    split at hn
    · rename_i h1
      rw [execL_iff.2 ⟨n, h1⟩]
      exact hn
    · rename_i hne
      rw [execL_iff.2 ⟨n, hn⟩]
      split
      · rename_i e; cases e; exact absurd hn (hne _ _)
      · rfl
  · intro h
    split at h
    · rename_i h1
      obtain ⟨n, hn⟩ := execL_iff.1 h1
      exact ⟨n, by simp only [exec, St.closed_eq]; rw [hn]; exact h⟩
    · rename_i hne
      obtain ⟨n, hn⟩ := execL_iff.1 h
      refine ⟨n, ?_⟩
      simp only [exec, St.closed_eq]
      rw [hn]
      split
      · rename_i e; cases e; exact absurd h (hne _ _)
      · rfl

theorem iter_le {f : St → Option (X × St)} {n m : Nat} {st : St} {r : X × St} (hle : n ≤ m) (h : iter f n st = some r) : iter f m st = some r := iter_mono (fun _ _ h => h) n m st r hle h

theorem execL_loop (c : ACode) (st : St) : execL tab (.loop c) st = match execL tab c st with
    | some (.normal, st') => execL tab (.loop c) st'
    | r => r := by
  refine opt_ext fun r => ?_
  rw [execL_iff]
  constructor
  · rintro ⟨n, hn⟩
    simp only [exec, St.closed_eq] at hn
    cases n with
    | zero => cases hn
    | succ n =>
      simp only [iter] at hn
      split at hn
      · rename_i st1 h1
        rw [execL_iff.2 ⟨n + 1, h1⟩]
        exact execL_iff.2 ⟨n + 1, by simp only [exec, St.closed_eq]; exact iter_le (Nat.le_succ n) hn⟩
      · rename_i hne
        rw [execL_iff.2 ⟨n + 1, hn⟩]
        split
        · rename_i e; cases e; exact absurd hn (hne _)
        · rfl
  · intro h
    split at h
    · rename_i st1 h1
      obtain ⟨n, hn⟩ := execL_iff.1 h1
      obtain ⟨m, hm⟩ := execL_iff.1 h
      simp only [exec, St.closed_eq] at hm
      refine ⟨max n m + 1, ?_⟩
      simp only [exec, iter]
      rw [exec_up (show n ≤ max n m + 1 by omega) hn]
      exact iter_mono (fun st r hr => exec_up (show m ≤ max n m + 1 by omega) hr) m (max n m) _ _ (Nat.le_max_right n m) hm
    · rename_i hne
      obtain ⟨n, hn⟩ := execL_iff.1 h
      refine ⟨n + 1, ?_⟩
      simp only [exec, iter]
      rw [exec_up (Nat.le_succ n) hn]
      split
      · rename_i e; cases e; exact absurd h (hne _)
      · rfl

theorem execL_range (f : Opd) (ps : List Nat) (a b : ACode) (st : St) : execL tab (.rangeFunc f ps a b) st =
    if (roOk st.H st.ro && isFn (f.ev st.tE st.vE)) = false then none else
    match callL tab (f.ev st.tE st.vE) [.yield st.H.length] (st.H ++ [.loop .ready .normal st.vE ps a b]) with
    | some (_, H', low') => match H'[st.H.length]? with
      | some (.loop ls pend _ _ _ _) => if ls = .busy then none else some (pend, { st with H := H'.set st.H.length .gone, low := min st.low low' })
      | _ => none
    | none => none := by
  refine opt_ext fun r => ?_
  rw [execL_iff]
  constructor
  · rintro ⟨n, hn⟩
    simp only [exec, St.closed_eq] at hn
    split at hn
    · cases hn
    · rename_i hc
      rw [if_neg hc]
      split at hn
      · rename_i h1
        rw [callN_le_L n _ _ _ _ h1]
        exact hn
      · cases hn
  · intro h
    split at h
    · cases h
    · rename_i hc
      split at h
      · rename_i h1
        obtain ⟨n, hn⟩ := callL_iff.1 h1
        exact ⟨n, by simp only [exec, St.closed_eq]; rw [if_neg hc, hn]; exact h⟩
      · cases h

theorem callL_fn (i : Nat) (first caps args : List V) (H : Heap) : callL tab (.fn i first caps) args H = match tab i with
    | some (.code fn) => callBody (execL tab) fn (first ++ args ++ caps) H
    | some (.ext spec) => if isPs (first ++ args ++ caps) then (spec (first ++ args ++ caps)).map fun v => (v, H, H.length) else none
    | none => none := by
  refine opt_ext fun r => ?_
  rw [callL_iff]
  constructor
  · rintro ⟨n, hn⟩
    cases n with
    | zero => simp [callN] at hn
    | succ n =>
      simp only [callN, callV] at hn
      split at hn
      · rename_i h1; try simp only [h1]
        exact callBody_mono (ex' := execL tab) (fun c st r h => execL_iff.2 ⟨n, h⟩) hn
      · rename_i h1; try simp only [h1]
        exact hn
      · cases hn
  · intro h
    cases ht : tab i with
    | none => rw [ht] at h; cases h
    | some F =>
      rw [ht] at h
      cases F with
      | ext spec => exact ⟨1, by simp only [callN, callV, ht]; exact h⟩
      | code fn =>
        simp only at h
        unfold callBody at h
        split at h
        · rename_i hl
          split at h
          · rename_i st h1
            obtain ⟨n, hn⟩ := execL_iff.1 h1
            exact ⟨n + 1, by simp only [callN, callV, ht, callBody]; rw [if_pos hl, hn]; exact h⟩
          · rename_i st h1
            obtain ⟨n, hn⟩ := execL_iff.1 h1
            exact ⟨n + 1, by simp only [callN, callV, ht, callBody]; rw [if_pos hl, hn]; exact h⟩
          · cases h
        · cases h

theorem callL_yield (l : Nat) (args : List V) (H : Heap) : callL tab (.yield l) args H = yieldBody (execL tab) l args H := by
  refine opt_ext fun r => ?_
  rw [callL_iff]
  constructor
  · rintro ⟨n, hn⟩
    cases n with
    | zero => simp [callN] at hn
    | succ n => exact yieldBody_mono (fun c st r h => execL_iff.2 ⟨n, h⟩) hn
  · intro h
    unfold yieldBody at h
    split at h
    · rename_i hl
      split at h
      · rename_i hlen
        split at h
        · rename_i st h1
          split at h
          · rename_i h2
            split at h
            · rename_i h3
              obtain ⟨n, hn⟩ := execL_iff.1 h1
              obtain ⟨m, hm⟩ := execL_iff.1 h3
              refine ⟨max n m + 1, ?_⟩
              simp only [callN, callV, yieldBody, hl, hlen, if_true]
              simp only [exec_up (Nat.le_max_left n m) hn, h2, exec_up (Nat.le_max_right n m) hm]
              exact h
            · cases h
          · cases h
        · cases h
      · cases h
    · cases h

end Go.Abs
/- For reckoning with the executor by hand. Nothing here speaks of the real memory. -/
namespace Go.Abs
open Go

/-- A slice that is never written, of elements of es cells. -/
def slE (es : Nat) : V → Bool
  | .nil0 | .emp => true
  | .list es' _ => es' == es
  | _ => false

def el : V → List V
  | .list _ ds => ds
  | _ => []

section
variable {call : CallT} {ev : Opd → V} {H : Heap} {low : Nat}

theorem S_mv (x : Opd) : stepC call ev H low (.mv x) = some (ev x, H, low) := rfl
theorem S_pick (c a b : Opd) : stepC call ev H low (.pick c a b) = (boolOf (ev c)).map fun t => (if t then ev a else ev b, H, low) := rfl
theorem S_alloc (z : List V) : stepC call ev H low (.alloc z) = some (.ptr H.length 0, H ++ [.cells z], low) := rfl
theorem S_box (x : Opd) : stepC call ev H low (.box x) = if cellsOk (cellsV (ev x)) then some (.ptr H.length 0, H ++ [.cells (cellsV (ev x))], low) else none := rfl
theorem S_load (sh : Option Nat) (x : Opd) : stepC call ev H low (.load sh x) = (loadA H sh (ev x)).map fun v => (v, H, low) := rfl
theorem S_store (n : Nat) (a x : Opd) : stepC call ev H low (.store n a x) = (storeA H n (ev a) (ev x)).map fun (H', l) => (.undef, H', min low l) := rfl
theorem S_bin (op : BinOp) (x y : Opd) : stepC call ev H low (.bin op x y) = (binA op (ev x) (ev y)).map fun v => (v, H, low) := rfl
theorem S_un (op : UnOp) (x : Opd) : stepC call ev H low (.un op x) = (unA op (ev x)).map fun v => (v, H, low) := rfl
theorem S_nilEq (k : Nat) (neg : Bool) (x y : Opd) : stepC call ev H low (.nilEq k neg x y) = (nilEqA k (ev x) (ev y)).map fun e => (.bool (if neg then !e else e), H, low) := rfl
theorem S_mkFn (i : Nat) (a b : List Opd) : stepC call ev H low (.mkFn i a b) = some (.fn i (a.map ev) (b.map ev), H, low) := rfl
theorem S_mkMap : stepC call ev H low .mkMap = some (.map H.length, H ++ [.map []], low) := rfl
theorem S_extract (x : Opd) (i : Nat) : stepC call ev H low (.extract x i) = match ev x with
    | .tup vs => (vs[i]?).map fun v => (v, H, low)
    | _ => none := rfl
theorem S_field (off : Nat) (sh : Option Nat) (x : Opd) : stepC call ev H low (.field off sh x) = match ev x with
    | .agg vs => (readCells vs off sh).map fun v => (v, H, low)
    | _ => none := rfl
theorem S_fieldAddr (off : Nat) (x : Opd) : stepC call ev H low (.fieldAddr off x) = match ev x with
    | .ptr l o => some (.ptr l (o + off), H, low)
    | .eptr l es i f tag => some (.eptr l es i (f + off) tag, H, low)
    | .pin vs f => some (.pin vs (f + off), H, low)
    | _ => none := rfl
theorem S_call0 (f : Opd) (args : List Opd) : stepC call ev H low (.call false f args) = match freezeVs H low (args.map ev) with
    | some (vs, H', low') => match call (ev f) vs H' with
      | some (v, H'', l) => if flat v = true ∧ H'.length ≤ l then some (v, H, low) else some (v, H'', min low' l)
      | none => none
    | none => none := rfl
theorem S_call1 (f : Opd) (args : List Opd) : stepC call ev H low (.call true f args) = match call (ev f) (args.map ev) H with
    | some (v, H', l) => some (v, H', min low l)
    | none => none := rfl
theorem S_append (es bytes : Nat) (a b : Opd) : stepC call ev H low (.append es bytes a b) = step ev H low (.append es bytes a b) := rfl
theorem S_lit (es : Nat) (z : List V) (n : Nat) (ps : List (Nat × Opd)) (im : Bool) : stepC call ev H low (.lit es z n ps im) = step ev H low (.lit es z n ps im) := rfl
theorem S_mkSlice (es : Nat) (z : List V) (b : Nat) (l c : Opd) : stepC call ev H low (.mkSlice es z b l c) = step ev H low (.mkSlice es z b l c) := rfl
theorem S_sliceL (es : Nat) (x : Opd) (lo hi mx : Option Opd) : stepC call ev H low (.sliceL es x lo hi mx) = step ev H low (.sliceL es x lo hi mx) := rfl
theorem S_lookup (k : Nat) (z : V) (x i : Opd) (ok : Bool) : stepC call ev H low (.lookup k z x i ok) = step ev H low (.lookup k z x i ok) := rfl
theorem S_mapUpd (k : Nat) (m x v : Opd) : stepC call ev H low (.mapUpd k m x v) = step ev H low (.mapUpd k m x v) := rfl
theorem S_minmax (m : Bool) (x y : Opd) : stepC call ev H low (.minmax m x y) = step ev H low (.minmax m x y) := rfl

/-- len, of a slice that is never written. -/
theorem S_len {x : Opd} (es : Nat) (h : slE es (ev x) = true) : stepC call ev H low (.len 1 x) = some (.int .i64 (el (ev x)).length, H, low) := by
  show step ev H low (.len 1 x) = _
  cases hx : ev x <;> simp_all [slE, step, el]
/-- len, of a row. -/
theorem S_len_row {x : Opd} {l es off len tag : Nat} (hx : ev x = .sref l es off len tag) {ds : List V} {fz : Bool} (hl : H[l]? = some (.row es ds fz)) (ht : ds.length = tag) : stepC call ev H low (.len 1 x) = some (.int .i64 len, H, low) := by
  show step ev H low (.len 1 x) = _
  simp [step, hx, hl, ht]
theorem S_index {es : Nat} {x i : Opd} (h : slE es (ev x) = true) : stepC call ev H low (.indexAddr es x i) = match natOf (ev i) with
    | some k => ((el (ev x))[k]?).map fun d => (.pin (cellsV d) 0, H, low)
    | none => none := by
  show step ev H low (.indexAddr es x i) = _
  cases hx : ev x <;> simp_all [slE, step, el] <;> cases natOf (ev i) <;> rfl
theorem S_index_row {x i : Opd} {l es len tag : Nat} (hx : ev x = .sref l es 0 len tag) {ds : List V} {fz : Bool} (hl : H[l]? = some (.row es ds fz)) (ht : ds.length = tag) {k : Nat} (hk : natOf (ev i) = some k) (hlt : k < len) (hle : len ≤ tag) :
    stepC call ev H low (.indexAddr es x i) = some (.eptr l es k 0 tag, H, low) := by
  show step ev H low (.indexAddr es x i) = _
  simp [step, hx, hl, ht, hk, hlt, hle]
end

@[simp] theorem natOf_cast (k : IntKind) (n : Nat) : natOf (.int k (n : Int)) = some n := by simp [natOf]
theorem natOf_nonneg (k : IntKind) {n : Int} (h : 0 ≤ n) : natOf (.int k n) = some n.toNat := by simp [natOf, h]

@[simp] theorem movedH_same (H : Heap) : movedH H H H.length = false := by simp [movedH]

theorem wrap_small {n : Int} (h1 : -9223372036854775808 ≤ n) (h2 : n < 9223372036854775808) : IntKind.i64.wrap n = n := by
  have e : (2 ^ IntKind.i64.bits : Int) = 18446744073709551616 := rfl
  have e' : (2 ^ (IntKind.i64.bits - 1) : Int) = 9223372036854775808 := rfl
  have s : IntKind.i64.signed = true := rfl
  simp only [IntKind.wrap, e, e', s, Bool.true_and, decide_eq_true_eq]
  split <;> omega

theorem lookE_setE (e : Env) (t t' : Nat) (v : V) : lookupE (setE e t v) t' = if t' = t then v else lookupE e t' := by
  induction e with
  | nil =>
    by_cases h : t' = t
    · subst h; simp [setE, lookupE]
    · simp [setE, lookupE, h, Ne.symm h]
  | cons p r ih =>
    obtain ⟨k, u⟩ := p
    simp only [setE]
    split
    · rename_i hk
      subst hk
      by_cases h : t' = k
      · subst h; simp [lookupE]
      · simp [lookupE, h, Ne.symm h]
    · rename_i hk
      simp only [lookupE]
      split
      · rename_i h
        rw [if_neg (by omega)]
      · exact ih

/-- The shape of 'for i := range n' and 'for i, x := range xs'. -/
def rangeBody (b n i t blk ex : Nat) (body : ACode) : ACode :=
  .seq (.region [⟨some (b, true), .bin .lss (.var i) (.var n), none⟩] none) (.seq (.cond (.var b) (.skip) (.exit ex)) (.seq (.block blk body)
    (.region [⟨some (t, false), .bin .add (.var i) (.const (.int .i64 1)), none⟩, ⟨some (i, true), .mv (.tmp t), none⟩] none)))

theorem range_loop {tab : Nat → Option Fun} {b n i t blk ex : Nat} {body : ACode} {I : Nat → St → Prop} {Q : X → St → Prop} {N : Nat} (hN : N < 4611686018427387904) (hbi : b ≠ i) (hex : ex ≠ blk)
    (hI : ∀ k st, I k st → lookupE st.vE i = .int .i64 k ∧ lookupE st.vE n = .int .i64 N ∧ st.low ≤ st.H.length)
    (round : ∀ k st, k < N → I k st → ∃ x st2, execL tab body { st with tE := [], vE := setE st.vE b (.bool true) } = some (x, st2) ∧
      if x = .normal ∨ x = .exit blk then lookupE st2.vE i = .int .i64 k ∧ st2.low ≤ st2.H.length ∧ I (k + 1) { st2 with tE := [], vE := setE st2.vE i (.int .i64 ((k + 1 : Nat) : Int)) } else Q x st2)
    (done : ∀ st, I N st → Q (.exit ex) { st with tE := [], vE := setE st.vE b (.bool false) }) :
    ∀ j k st, k + j = N → I k st → ∃ x st', execL tab (.loop (rangeBody b n i t blk ex body)) st = some (x, st') ∧ Q x st' := by
  have hlt : ∀ k st, I k st → execL tab (.region [⟨some (b, true), .bin .lss (.var i) (.var n), none⟩] none) st = some (.normal, { st with tE := [], vE := setE st.vE b (.bool (decide (k < N))) }) := fun k st h => by
    obtain ⟨h1, h2, h3⟩ := hI k st h
    rw [execL_region]
    simp [execOps, wantedA, S_bin, Opd.ev, h1, h2, binA, St.put, Nat.min_eq_left h3]
  intro j
  induction j with
  | zero =>
    intro k st hk h
    have : k = N := by omega
    subst this
    refine ⟨.exit ex, _, ?_, done st h⟩
    rw [execL_loop]
    simp only [rangeBody]
    rw [execL_seq, hlt k st h]
    simp only []
    rw [execL_seq, execL_cond]
    simp [Opd.ev, lookE_setE, execL_exit]
  | succ j ih =>
    intro k st hk h
    obtain ⟨x, st2, h1, h2⟩ := round k st (by omega) h
    have hpre : ∀ r, execL tab (.seq (.block blk body) (.region [⟨some (t, false), .bin .add (.var i) (.const (.int .i64 1)), none⟩, ⟨some (i, true), .mv (.tmp t), none⟩] none)) { st with tE := [], vE := setE st.vE b (.bool true) } = r →
        execL tab (rangeBody b n i t blk ex body) st = r := fun r hr => by
      simp only [rangeBody]
      rw [execL_seq, hlt k st h]
      simp only []
      rw [execL_seq, execL_cond]
      have hd : decide (k < N) = true := by simp; omega
      simp [Opd.ev, lookE_setE, execL_skip, hd, hr]
    by_cases hx : x = .normal ∨ x = .exit blk
    · rw [if_pos hx] at h2
      obtain ⟨h2, h4, h3⟩ := h2
      have hblk : execL tab (.block blk body) { st with tE := [], vE := setE st.vE b (.bool true) } = some (.normal, st2) := by
        rw [execL_block, h1]
        rcases hx with rfl | rfl
        · rfl
        · simp
      have hinc : execL tab (.region [⟨some (t, false), .bin .add (.var i) (.const (.int .i64 1)), none⟩, ⟨some (i, true), .mv (.tmp t), none⟩] none) st2 = some (.normal, { st2 with tE := [], vE := setE st2.vE i (.int .i64 ((k + 1 : Nat) : Int)) }) := by
        have hw : IntKind.i64.wrap ((k : Int) + 1) = ((k + 1 : Nat) : Int) := by rw [wrap_small] <;> omega
        rw [execL_region]
        simp [execOps, wantedA, S_bin, S_mv, Opd.ev, h2, binA, hw, St.put, lookupE, Nat.min_eq_left h4]
      have hround := hpre _ (by rw [execL_seq, hblk])
      simp only [hinc] at hround
      obtain ⟨x', st', h5, h6⟩ := ih (k + 1) _ (by omega) h3
      exact ⟨x', st', by rw [execL_loop, hround]; exact h5, h6⟩
    · rw [if_neg hx] at h2
      have hblk : execL tab (.block blk body) { st with tE := [], vE := setE st.vE b (.bool true) } = some (x, st2) := by
        rw [execL_block, h1]
        cases x with
        | normal => exact absurd (.inl rfl) hx
        | exit id =>
          have : id ≠ blk := fun e => hx (.inr (by rw [e]))
          simp [this]
        | ret => rfl
      have hround := hpre (some (x, st2)) (by
        rw [execL_seq, hblk]
        cases x with
        | normal => exact absurd (.inl rfl) hx
        | exit id => rfl
        | ret => rfl)
      refine ⟨x, st2, ?_, h2⟩
      rw [execL_loop, hround]
      cases x with
      | normal => exact absurd (.inl rfl) hx
      | exit id => rfl
      | ret => rfl

end Go.Abs
/- The shape of 'for i := 0; i < len(xs); i++'. Nothing here speaks of the real memory. -/
namespace Go.Abs
open Go

def forBody (b i xs t1 t2 t3 t4 t5 blk ex : Nat) (body : ACode) : ACode :=
  .seq (.seq (.region [⟨some (t1, false), .mv (.var i), none⟩, ⟨some (t2, false), .mv (.var xs), none⟩, ⟨some (t3, false), .len 1 (.tmp t2), none⟩, ⟨some (b, true), .bin .lss (.tmp t1) (.tmp t3), none⟩] none) (.cond (.var b) (.skip) (.exit ex)))
    (.seq (.block blk body) (.region [⟨some (t4, false), .mv (.var i), none⟩, ⟨some (t5, false), .bin .add (.tmp t4) (.const (.int .i64 1)), none⟩, ⟨some (i, true), .mv (.tmp t5), none⟩] none))

theorem for_loop {tab : Nat → Option Fun} {b i xs t1 t2 t3 t4 t5 blk ex es : Nat} {body : ACode} {I : Nat → St → Prop} {Q : X → St → Prop} {N : Nat} (hN : N < 4611686018427387904) (hbi : b ≠ i) (hex : ex ≠ blk) (ht : t2 ≠ t1 ∧ t3 ≠ t1 ∧ t3 ≠ t2 ∧ t5 ≠ t4)
    (hI : ∀ k st, I k st → lookupE st.vE i = .int .i64 k ∧ slE es (lookupE st.vE xs) = true ∧ (el (lookupE st.vE xs)).length = N ∧ st.low ≤ st.H.length)
    (round : ∀ k st, k < N → I k st → ∃ x st2, execL tab body { st with tE := [], vE := setE st.vE b (.bool true) } = some (x, st2) ∧
      if x = .normal ∨ x = .exit blk then lookupE st2.vE i = .int .i64 k ∧ st2.low ≤ st2.H.length ∧ I (k + 1) { st2 with tE := [], vE := setE st2.vE i (.int .i64 ((k + 1 : Nat) : Int)) } else Q x st2)
    (done : ∀ st, I N st → Q (.exit ex) { st with tE := [], vE := setE st.vE b (.bool false) }) :
    ∀ j k st, k + j = N → I k st → ∃ x st', execL tab (.loop (forBody b i xs t1 t2 t3 t4 t5 blk ex body)) st = some (x, st') ∧ Q x st' := by
  obtain ⟨n1, n2, n3, n4⟩ := ht
  have hlt : ∀ k st, I k st → execL tab (.region [⟨some (t1, false), .mv (.var i), none⟩, ⟨some (t2, false), .mv (.var xs), none⟩, ⟨some (t3, false), .len 1 (.tmp t2), none⟩, ⟨some (b, true), .bin .lss (.tmp t1) (.tmp t3), none⟩] none) st = some (.normal, { st with tE := [], vE := setE st.vE b (.bool (decide (k < N))) }) := fun k st h => by
    obtain ⟨h1, h2, h3, h4⟩ := hI k st h
    rw [execL_region]
    simp [execOps, wantedA, S_bin, S_mv, S_len es, h2, h3, Opd.ev, h1, lookupE, n1, n2, n3, binA, St.put, Nat.min_eq_left h4]
  intro j
  induction j with
  | zero =>
    intro k st hk h
    have : k = N := by omega
    subst this
    refine ⟨.exit ex, _, ?_, done st h⟩
    rw [execL_loop]
    simp only [forBody]
    rw [execL_seq, execL_seq, hlt k st h]
    simp only []
    rw [execL_cond]
    simp [Opd.ev, lookE_setE, execL_exit]
  | succ j ih =>
    intro k st hk h
    obtain ⟨x, st2, h1, h2⟩ := round k st (by omega) h
    have hpre : ∀ r, execL tab (.seq (.block blk body) (.region [⟨some (t4, false), .mv (.var i), none⟩, ⟨some (t5, false), .bin .add (.tmp t4) (.const (.int .i64 1)), none⟩, ⟨some (i, true), .mv (.tmp t5), none⟩] none)) { st with tE := [], vE := setE st.vE b (.bool true) } = r →
        execL tab (forBody b i xs t1 t2 t3 t4 t5 blk ex body) st = r := fun r hr => by
      simp only [forBody]
      rw [execL_seq, execL_seq, hlt k st h]
      simp only []
      rw [execL_cond]
      have hd : decide (k < N) = true := by simp; omega
      simp [Opd.ev, lookE_setE, execL_skip, hd, hr]
    by_cases hx : x = .normal ∨ x = .exit blk
    · rw [if_pos hx] at h2
      obtain ⟨h2, h4, h3⟩ := h2
      have hblk : execL tab (.block blk body) { st with tE := [], vE := setE st.vE b (.bool true) } = some (.normal, st2) := by
        rw [execL_block, h1]
        rcases hx with rfl | rfl
        · rfl
        · simp
      have hinc : execL tab (.region [⟨some (t4, false), .mv (.var i), none⟩, ⟨some (t5, false), .bin .add (.tmp t4) (.const (.int .i64 1)), none⟩, ⟨some (i, true), .mv (.tmp t5), none⟩] none) st2 = some (.normal, { st2 with tE := [], vE := setE st2.vE i (.int .i64 ((k + 1 : Nat) : Int)) }) := by
        have hw : IntKind.i64.wrap ((k : Int) + 1) = ((k + 1 : Nat) : Int) := by rw [wrap_small] <;> omega
        rw [execL_region]
        simp [execOps, wantedA, S_bin, S_mv, Opd.ev, h2, binA, hw, St.put, lookupE, Nat.min_eq_left h4]
      have hround := hpre _ (by rw [execL_seq, hblk])
      simp only [hinc] at hround
      obtain ⟨x', st', h5, h6⟩ := ih (k + 1) _ (by omega) h3
      exact ⟨x', st', by rw [execL_loop, hround]; exact h5, h6⟩
    · rw [if_neg hx] at h2
      have hblk : execL tab (.block blk body) { st with tE := [], vE := setE st.vE b (.bool true) } = some (x, st2) := by
        rw [execL_block, h1]
        cases x with
        | normal => exact absurd (.inl rfl) hx
        | exit id =>
          have : id ≠ blk := fun e => hx (.inr (by rw [e]))
          simp [this]
        | ret => rfl
      have hround := hpre (some (x, st2)) (by
        rw [execL_seq, hblk]
        cases x with
        | normal => exact absurd (.inl rfl) hx
        | exit id => rfl
        | ret => rfl)
      refine ⟨x, st2, ?_, h2⟩
      rw [execL_loop, hround]
      cases x with
      | normal => exact absurd (.inl rfl) hx
      | exit id => rfl
      | ret => rfl
end Go.Abs
