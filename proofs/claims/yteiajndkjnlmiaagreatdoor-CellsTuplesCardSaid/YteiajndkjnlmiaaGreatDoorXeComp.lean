/- From the program's code to the simplified code: the types' sizes and zero values are looked up here, once. -/
import Derived.Test.YteiajndkjnlmiaaGreatDoorXeVal
import Derived.CheckFast
set_option linter.unusedVariables false
set_option linter.unusedSimpArgs false
namespace Go.Abs
open Go

mutual
def constV : Value → Option V
  | .bool b => some (.bool b)
  | .int k n => some (.int k n)
  | .string s => some (.str s.data.toList)
  | .pointer none => some .nilp
  | .slice none 0 0 => some .nil0
  | .map none => some .nilm
  | .nilFunc => some .nilf
  | .nilIface => some .nili
  | .agg ⟨vs⟩ => (constVs vs).map .agg
  | .tuple ⟨[]⟩ => some .undef
  | _ => none
def constVs : List Value → Option (List V)
  | [] => some []
  | v :: r => match constV v with
    | some v' => if isU v' then none else (constVs r).map (v' :: ·)
    | none => none
end

def mapO {α β : Type} (f : α → Option β) : List α → Option (List β)
  | [] => some []
  | a :: r => match f a with
    | some b => match mapO f r with
      | some bs => some (b :: bs)
      | none => none
    | none => none

structure Ctx where
  P : Program
  fidx : Nat → Option Nat
  im : String → Bool := fun _ => true
  raw : Nat → Bool := fun _ => false
  glob : Nat → Option Obj := fun _ => none

namespace Ctx
variable (C : Ctx)

def sizeOf (t : Nat) : Option Nat := (C.P.info? t).map (·.size)
def zeroCells (t : Nat) : Option (List V) := match C.P.info? t with
  | some i => match i.zero with
    | some z => match constVs z.cells.toList with
      | some vs => if cellsOk vs then some vs else none
      | none => none
    | none => none
  | none => none
def zeroV (t : Nat) : Option V := match C.P.info? t with
  | some i => match i.zero with
    | some z => constV z
    | none => none
  | none => none
def shapeOf (t : Nat) : Option (Option Nat) := match C.P.underlying t with
  | some (.struct _) | some (.array _ _) => (C.sizeOf t).map some
  | some _ => some none
  | none => none
def scalarT (t : Nat) : Bool := match C.P.underlying t with
  | some (.int _) | some .string | some .bool => true
  | _ => false

def opd (vars : List Nat) : Operand → Option Opd
  | .tmp t => some (if vars.contains t then .var t else .tmp t)
  | .const v => (constV v).map .const
  | .func f => (C.fidx f).map .func
  | .global _ => none
def opdO (vars : List Nat) : Option Operand → Option (Option Opd)
  | none => some none
  | some x => (C.opd vars x).map some

def kindT (t : Nat) : Option Nat := match C.P.underlying t with
  | some (.int _) => some 0
  | some .string => some 1
  | some .bool => some 2
  | _ => none

def eqKinds (i : Nat) : List Field → Option (List Nat)
  | [] => some []
  | f :: fs => match C.kindT f.type with
    | some k => if f.name != "_" && f.offset == i then (eqKinds (i + 1) fs).map (k :: ·) else none
    | none => none

def structEq (t : Nat) : Option (List Nat) := match C.P.underlying t with
  | some (.struct fs) => if !C.P.stoodInHeld t && !C.P.eqGuardType C.P.depth t then C.eqKinds 0 fs.toList else none
  | _ => none

def isNilConst : Opd → Bool
  | .const .nili => true
  | _ => false

def nilKind (d : TypeDesc) (x y : Opd) (plain : AOp) (neg : Bool) : Option AOp :=
  match d with
  | .int _ | .string => some plain
  | .pointer _ => some (.nilEq 0 neg x y)
  | .slice _ => some (.nilEq 1 neg x y)
  | .func .. => some (.nilEq 2 neg x y)
  | .interface _ => if isNilConst y then some (.nilEq 3 neg x y) else none
  | .bool => some (.nilEq 4 neg x y)
  | _ => none

def builtin (vars : List Nat) (b : Builtin) (args : Array Operand) (ts : Array TypeId) : Option AOp :=
  match b, args.toList, ts.toList with
  | .len, [x], [t] => match C.P.underlying t with
    | some .string => (C.opd vars x).map (.len 0)
    | some (.slice _) => (C.opd vars x).map (.len 1)
    | some (.map _ _) => (C.opd vars x).map (.len 2)
    | _ => none
  | .append, [a, b], [t, u] => match C.P.underlying t, C.P.underlying u with
    | some (.slice e), some (.slice _) => match C.P.info? e, C.opd vars a, C.opd vars b with
      | some i, some a, some b => if i.size = 0 || i.zero.map (·.cells.size) != some i.size then none else some (.append i.size i.bytes a b)
      | _, _, _ => none
    | _, _ => none
  | .max, [a, b], _ => match C.opd vars a, C.opd vars b with
    | some a, some b => some (.minmax true a b)
    | _, _ => none
  | .copy, [a, b], [t, u] => match C.P.underlying t, C.P.underlying u with
    | some (.slice e), some (.slice _) => match C.sizeOf e, C.opd vars a, C.opd vars b with
      | some n, some a, some b => if n = 0 then none else some (.copy n a b)
      | _, _, _ => none
    | _, _ => none
  | .min, [a, b], _ => match C.opd vars a, C.opd vars b with
    | some a, some b => some (.minmax false a b)
    | _, _ => none
  | _, _, _ => none

def op0 (vars : List Nat) (pos : String) : Op → Option AOp
  | .move x | .assign x => (C.opd vars x).map .mv
  | .pick c a b => match C.opd vars c, C.opd vars a, C.opd vars b with
    | some c, some a, some b => some (.pick c a b)
    | _, _, _ => none
  | .alloc t => (C.zeroCells t).map .alloc
  | .box _ x => (C.opd vars x).map .box
  | .build t parts => match C.P.underlying t, C.zeroCells t with
    | some (.struct fs), some z => if fs.toList.any (fun f => (C.sizeOf f.type).isNone) then none else (mapO (fun (p : Nat × Operand) => match fs[p.1]? with
        | some f => match C.sizeOf f.type, C.opd vars p.2 with
          | some n, some x => some (f.offset, n, x)
          | _, _ => none
        | none => none) parts.toList).map (.build z)
    | some (.array _ e), some z => match C.sizeOf e with
      | some n => (mapO (fun (p : Nat × Operand) => match C.opd vars p.2 with
          | some x => some (p.1 * n, n, x)
          | none => none) parts.toList).map (.build z)
      | none => none
    | _, _ => none
  | .buildSlice t len parts => match C.P.underlying t with
    | some (.slice e) => match C.sizeOf e, C.zeroCells e, mapO (fun (p : Nat × Operand) => (C.opd vars p.2).map fun x => (p.1, x)) parts.toList with
      | some n, some z, some ps => if n = 0 ∨ len * n > 2 ^ 24 ∨ z.length ≠ n then none else some (.lit n z len ps (C.im pos))
      | _, _, _ => none
    | _ => none
  | .load t a => match C.shapeOf t, C.opd vars a with
    | some sh, some a => some (.load sh a)
    | _, _ => none
  | .store t a x => match C.sizeOf t, C.opd vars a, C.opd vars x with
    | some n, some a, some x => some (.store n a x)
    | _, _, _ => none
  | .nilCheck x => (C.opd vars x).map .nilCheck
  | .binOp o t x y _ => match C.opd vars x, C.opd vars y with
    | some x, some y => match o, C.P.underlying t with
      | .eql, some (.struct _) => (C.structEq t).map fun n => .eqAgg false n x y
      | .neq, some (.struct _) => (C.structEq t).map fun n => .eqAgg true n x y
      | .eql, some d => nilKind d x y (.bin .eql x y) false
      | .neq, some d => nilKind d x y (.bin .neq x y) true
      | .eql, none | .neq, none => none
      | _, _ => some (.bin o x y)
    | _, _ => none
  | .unOp o _ x => (C.opd vars x).map (.un o)
  | .convert s d x => match C.P.underlying s, C.P.underlying d, C.opd vars x with
    | some (.int _), some (.int k), some x => some (.conv k x)
    | _, _, _ => none
  | .makeInterface t x => match C.P.underlying t, C.opd vars x with
    | some (.interface _), _ => none
    | some _, some x => some (.mkIface t x)
    | _, _ => none
  | .makeFunc (.func f) a b => match C.fidx f, mapO (C.opd vars) a.toList, mapO (C.opd vars) b.toList with
    | some i, some a, some b => some (.mkFn i a b)
    | _, _, _ => none
  | .makeMap _ none => some .mkMap
  | .makeSlice t l c => match C.P.underlying t with
    | some (.slice e) => match C.P.info? e, C.zeroCells e, C.opd vars l, C.opd vars c with
      | some i, some z, some l, some c => if i.size = 0 ∨ z.length ≠ i.size then none else some (.mkSlice i.size z i.bytes l c)
      | _, _, _, _ => none
    | _ => none
  | .slice t x lo hi mx => match C.P.underlying t, C.opd vars x, C.opdO vars lo, C.opdO vars hi, C.opdO vars mx with
    | some .string, some x, some lo, some hi, some none => some (.sliceS x lo hi)
    | some (.slice e), some x, some lo, some hi, some mx => match C.sizeOf e with
      | some n => if n = 0 || (hi.isNone && mx.isSome) then none else some (.sliceL n x lo hi mx)
      | none => none
    | _, _, _, _, _ => none
  | .fieldAddr s x f => match C.P.underlying s, C.opd vars x with
    | some (.struct fs), some x => match fs[f]? with
      | some fl => match C.sizeOf fl.type with
        | some n => if n = 0 then none else some (.fieldAddr fl.offset x)
        | none => none
      | none => none
    | _, _ => none
  | .field s x f => match C.P.underlying s, C.opd vars x with
    | some (.struct fs), some x => match fs[f]? with
      | some fl => (C.shapeOf fl.type).map fun sh => .field fl.offset sh x
      | none => none
    | _, _ => none
  | .indexAddr t x i => match C.P.underlying t, C.opd vars x, C.opd vars i with
    | some (.slice e), some x, some i => match C.sizeOf e with
      | some n => if n = 0 then none else some (.indexAddr n x i)
      | none => none
    | _, _, _ => none
  | .index t x i => match C.P.underlying t, C.opd vars x, C.opd vars i with
    | some .string, some x, some i => some (.indexS x i)
    | _, _, _ => none
  | .lookup t x i ok => match C.P.underlying t, C.opd vars x, C.opd vars i with
    | some (.map k e), some x, some i => match C.kindT k, C.zeroV e with
      | some kd, some z => if isU z then none else some (.lookup kd z x i ok)
      | _, _ => none
    | _, _, _ => none
  | .mapUpdate t m k v => match C.P.underlying t, C.opd vars m, C.opd vars k, C.opd vars v with
    | some (.map kt _), some m, some k, some v => (C.kindT kt).map fun kd => .mapUpd kd m k v
    | _, _, _, _ => none
  | .extract x i => (C.opd vars x).map fun x => .extract x i
  | .call { callee := .value f, args, .. } => match C.opd vars f, mapO (C.opd vars) args.toList with
    | some f, some as => some (.call (match f with | .func i => C.raw i | _ => false) f as)
    | _, _ => none
  | .call { callee := .builtin b, args, argTypes } => C.builtin vars b args argTypes
  | _ => none

/-- What is not served stops the executor where it comes there. -/
def op (vars : List Nat) (pos : String) (o : Op) : AOp := (C.op0 vars pos o).getD .fail

def guard (vars : List Nat) (ops : Array Oper) : Option (Nat × Bool) → Option (Option (Opd × Bool))
  | none => some none
  | some (j, want) => match (ops[j]?).bind (·.dst) with
    | some d => some (some (if vars.contains d then .var d else .tmp d, want))
    | none => none

def oper (vars : List Nat) (n : Nat) (ops : Array Oper) (o : Oper) : Option AOper :=
  match guard vars ops o.guard with
  | some g => match o.dst with
    | none => some { dst := none, op := C.op vars o.pos o.op, guard := g }
    | some d => if d < n then some { dst := some (d, vars.contains d), op := C.op vars o.pos o.op, guard := g } else none
  | none => none

/-- Edges look back, but those of the compiler's order alone. -/
def plainEdges (ops : Array Oper) : Bool :=
  ops.toList.zipIdx.all fun (o, i) => o.after.all fun e => match e.ground with | .gcOnly _ => true | _ => decide (e.on < i)

def tmpsOf (xs : Array Operand) : List Nat := xs.toList.filterMap fun | .tmp t => some t | _ => none

/-- The slots that an operation reads. -/
def slots (ops : Array Oper) (o : Oper) : List Nat :=
  tmpsOf o.op.operands ++ (match o.guard with | some (j, _) => ((ops[j]?).bind (·.dst)).toList | none => [])

/-- Who writes a slot stands in order with whoever names it. -/
def apartOk (ops : Array Oper) : Bool :=
  let b := CheckFast.beforeF ops
  ops.toList.zipIdx.all fun (o, j) => ops.toList.zipIdx.all fun (p, i) =>
    match p.dst with
    | none => true
    | some d => i == j || !(o.dst == some d || (slots ops o).contains d) || (b.getD (max i j) 0).testBit (min i j)

def seesOk (ops : Array Oper) (o : Oper) (a : AOper) : Bool :=
  a.op.operands.all fun
    | .tmp t | .var t => (slots ops o).contains t
    | _ => true

def code (vars : List Nat) (n : Nat) : Code → Option ACode
  | .skip => some .skip
  | .region _ ops draw => match mapO (C.oper vars n ops) ops.toList with
    | some aops =>
      if !draw then some (.region aops none)
      else if plainEdges ops && apartOk ops && (ops.toList.zip aops).all (fun (o, a) => seesOk ops o a) then some (.region aops (some (CheckFast.beforeF ops).toList)) else none
    | none => none
  | .seq a b => match code vars n a, code vars n b with
    | some a, some b => some (.seq a b)
    | _, _ => none
  | .cond c t e => match C.opd vars c, code vars n t, code vars n e with
    | some c, some t, some e => some (.cond c t e)
    | _, _, _ => none
  | .block id c => (code vars n c).map (.block id)
  | .loop c => (code vars n c).map .loop
  | .rangeFunc f ps a b => match C.opd vars f, code vars n a, code vars n b with
    | some f, some a, some b => if ps.all (fun t => decide (t < n) && vars.contains t) then some (.rangeFunc f ps.toList a b) else none
    | _, _, _ => none
  | .exit id => some (.exit id)
  | .ret => some .ret
  | _ => some .fail

/-- Slots that are read in a region ahead of any write there, or outside of regions. -/
def exposed : Code → List Nat
  | .region _ ops _ => (ops.toList.foldl (fun (acc : List Nat × List Nat) o =>
      let g := match o.guard with | some (j, _) => ((ops[j]?).bind (·.dst)).toList | none => []
      let reads := (g ++ tmpsOf o.op.operands).filter fun t => !acc.2.contains t
      (acc.1 ++ reads, o.dst.toList ++ acc.2)) ([], [])).1
  | .seq a b => exposed a ++ exposed b
  | .cond c t e => tmpsOf #[c] ++ exposed t ++ exposed e
  | .block _ c | .loop c => exposed c
  | .rangeFunc f ps a b => tmpsOf #[f] ++ ps.toList ++ exposed a ++ exposed b
  | _ => []

def res : ResultVar → Option ARes
  | .tmp t => some (.tmp t)
  | .cell a t => (C.shapeOf t).map (.cell a)

def resSlots : List ResultVar → List Nat
  | [] => []
  | .tmp t :: r => t :: resSlots r
  | .cell a _ :: r => a :: resSlots r

def varsOf (f : Func) : List Nat :=
  ((List.range (f.params.size + f.nfree) ++ resSlots f.results.toList ++ (match f.body with | some c => exposed c | none => [])).eraseDups)

def func (f : Func) (fresh : Bool) : Option AFunc :=
  match f.body with
  | some c => match C.code (varsOf f) f.ntmps c, mapO C.res f.results.toList with
    | some b, some rs => if f.name == "runtime.NumGoroutine" then none else some { nslots := f.ntmps, body := b, results := rs, fresh }
    | _, _ => none
  | none => none
end Ctx

end Go.Abs
