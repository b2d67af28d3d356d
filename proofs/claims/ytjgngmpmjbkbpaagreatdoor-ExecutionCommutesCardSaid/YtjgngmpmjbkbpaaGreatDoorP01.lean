/- Texts of this claim, joined and written short by a program. -/
import Derived.Test.YtjgngmpmjbkbpaaGreatDoorP00
import Derived.CheckFast
set_option linter.unusedVariables false
set_option linter.unusedSimpArgs false
set_option linter.unusedSectionVars false
namespace Go.Abs
open Go
mutual
def lQ : Value -> Option V
 | .bool b => some (.bool b)
 | .int k n => some (.int k n)
 | .string s => some (.str s.data.toList)
 | .pointer none => some .iM
 | .slice none 0 0 => some .c0
 | .map none => some .hU
 | .nilFunc => some .jB
 | .nilIface => some .iN
 | .agg ⟨vs⟩ => (zx vs).map .agg
 | .tuple ⟨[]⟩ => some .undef
 | _ => none
def zx : List Value -> Option (List V)
 | [] => some []
 | v :: r => match lQ v with
   | some v' => if tr v' then none else (zx r).map (v' :: ·)
   | none => none
end
def dH {α β : Type} (f : α -> Option β) : List α -> Option (List β)
 | [] => some []
 | a :: r => match f a with
   | some b => match dH f r with
     | some aL => some (b :: aL)
     | none => none
   | none => none
structure Ctx where
 P : Program
 Fq : Nat -> Option Nat
 mG : String -> Bool := fun _ => true
 raw : Nat -> Bool := fun _ => false
 e6 : Nat -> Option Obj := fun _ => none
 zy : List Nat := []
namespace Ctx
variable (C : Ctx)
def sizeOf (t : Nat) : Option Nat := (C.P.info? t).map (·.size)
def zeroCells (t : Nat) : Option (List V) := match C.P.info? t with
 | some i => match i.zero with
   | some z => match zx z.cells.toList with
     | some vs => if b4 vs then some vs else none
     | none => none
   | none => none
 | none => none
def zeroV (t : Nat) : Option V := match C.P.info? t with
 | some i => match i.zero with
   | some z => lQ z
   | none => none
 | none => none
def shapeOf (t : Nat) : Option (Option Nat) := match C.P.underlying t with
 | some (.struct _) | some (.array _ _) => (C.sizeOf t).map some
 | some _ => some none
 | none => none
def bV (vars : List Nat) : Operand -> Option aj
 | .tmp t => some (if vars.contains t then .var t else .tmp t)
 | .const v => (lQ v).map .const
 | .func f => (C.Fq f).map .func
 | .global _ => none
def oa (vars : List Nat) : Option Operand -> Option (Option aj)
 | none => some none
 | some x => (C.bV vars x).map some
def iQ (t : Nat) : Option Nat := match C.P.underlying t with
 | some (.int _) => some 0
 | some .string => some 1
 | some .bool => some 2
 | _ => none
def BK (i : Nat) : List Field -> Option (List Nat)
 | [] => some []
 | f :: fs => match C.iQ f.type with
   | some k => if f.name != "_" && f.offset == i then (BK (i + 1) fs).map (k :: ·) else none
   | none => none
def zz (i : Nat) : List Field -> Option (List Nat)
 | [] => some []
 | f :: fs => match C.iQ f.type with
   | some k => if f.name != "_" && f.offset == i then (zz (i + 1) fs).map (k :: ·) else none
   | none => match C.P.underlying f.type with
     | some (.struct gs) => match C.BK 0 gs.toList with
       | some ks => if f.name != "_" && f.offset == i && !C.P.stoodInHeld f.type && C.sizeOf f.type == some ks.length then (zz (i + ks.length) fs).map (ks ++ ·) else none
       | none => none
     | _ => none
def structEq (t : Nat) : Option (List Nat) := match C.P.underlying t with
 | some (.struct fs) => if !C.P.stoodInHeld t && !C.P.eqGuardType C.P.depth t then C.zz 0 fs.toList else none
 | _ => none
def Fs : aj -> Bool
 | .const .iN => true
 | _ => false
def w6 (d : TypeDesc) (x y : aj) (plain : cH) (neg : Bool) : Option cH :=
 match d with
 | .int _ | .string => some plain
 | .pointer _ => some (.qS 0 neg x y)
 | .slice _ => some (.qS 1 neg x y)
 | .func .. => some (.qS 2 neg x y)
 | .interface _ => if Fs y then some (.qS 3 neg x y) else none
 | .bool => some (.qS 4 neg x y)
 | _ => none
def builtin (vars : List Nat) (b : Builtin) (args : Array Operand) (ts : Array TypeId) : Option cH :=
 match b, args.toList, ts.toList with
 | .len, [x], [t] => match C.P.underlying t with
   | some .string => (C.bV vars x).map (.len 0)
   | some (.slice _) => (C.bV vars x).map (.len 1)
   | some (.map _ _) => (C.bV vars x).map (.len 2)
   | _ => none
 | .append, [a, b], [t, u] => match C.P.underlying t, C.P.underlying u with
   | some (.slice e), some (.slice _) => match C.P.info? e, C.bV vars a, C.bV vars b with
     | some i, some a, some b => if i.size = 0 || i.zero.map (·.cells.size) != some i.size then none else some (.append i.size i.bytes a b)
     | _, _, _ => none
   | some (.slice e), some .string => match C.P.info? e, C.bV vars a, C.bV vars b with
     | some i, some a, some b => if i.size = 1 && i.bytes == 1 && i.zero.map (·.cells.size) == some 1 then some (.BG a b) else none
     | _, _, _ => none
   | _, _ => none
 | .delete, [m, k], [t, _] => match C.P.underlying t, C.bV vars m, C.bV vars k with
   | some (.map eh _), some m, some k => (C.iQ eh).map fun bL => .w3 bL m k
   | _, _, _ => none
 | .recover, [], _ => none
 | .max, [a, b], _ => match C.bV vars a, C.bV vars b with
   | some a, some b => some (.tp true a b)
   | _, _ => none
 | .copy, [a, b], [t, u] => match C.P.underlying t, C.P.underlying u with
   | some (.slice e), some (.slice _) => match C.sizeOf e, C.bV vars a, C.bV vars b with
     | some n, some a, some b => if n = 0 then none else some (.copy n a b)
     | _, _, _ => none
   | _, _ => none
 | .min, [a, b], _ => match C.bV vars a, C.bV vars b with
   | some a, some b => some (.tp false a b)
   | _, _ => none
 | _, _, _ => none
def cI (vars : List Nat) (pos : String) : Op -> Option cH
 | .move x | .assign x => (C.bV vars x).map .mv
 | .pick c a b => match C.bV vars c, C.bV vars a, C.bV vars b with
   | some c, some a, some b => some (.pick c a b)
   | _, _, _ => none
 | .alloc t => (C.zeroCells t).map .alloc
 | .box _ x => (C.bV vars x).map .box
 | .build t parts => match C.P.underlying t, C.zeroCells t with
   | some (.struct fs), some z => if fs.toList.any (fun f => (C.sizeOf f.type).isNone) then none else (dH (fun (p : Nat × Operand) => match fs[p.1]? with
     | some f => match C.sizeOf f.type, C.bV vars p.2 with
       | some n, some x => some (f.offset, n, x)
       | _, _ => none
     | none => none) parts.toList).map (.build z)
   | some (.array _ e), some z => match C.sizeOf e with
     | some n => (dH (fun (p : Nat × Operand) => match C.bV vars p.2 with
       | some x => some (p.1 * n, n, x)
       | none => none) parts.toList).map (.build z)
     | none => none
   | _, _ => none
 | .buildSlice t len parts => match C.P.underlying t with
   | some (.slice e) => match C.sizeOf e, C.zeroCells e, dH (fun (p : Nat × Operand) => (C.bV vars p.2).map fun x => (p.1, x)) parts.toList with
     | some n, some z, some ps => if n = 0 \/ len * n > 2 ^ 24 \/ z.length ≠ n then none else some (.lit n z len ps (match C.P.underlying e with | some (.func ..) => false | _ => C.mG pos))
     | _, _, _ => none
   | _ => none
 | .load t a => match C.shapeOf t, C.bV vars a with
   | some sh, some a => some (.load sh a)
   | _, _ => none
 | .store t a x => match C.sizeOf t, C.bV vars a, C.bV vars x with
   | some n, some a, some x => some (.store n a x)
   | _, _, _ => none
 | .nilCheck x => (C.bV vars x).map .nilCheck
 | .binOp o t x y _ => match C.bV vars x, C.bV vars y with
   | some x, some y => match o, C.P.underlying t with
     | .eql, some (.struct _) => (C.structEq t).map fun n => .w2 false n x y
     | .neq, some (.struct _) => (C.structEq t).map fun n => .w2 true n x y
     | .eql, some d => w6 d x y (.bin .eql x y) false
     | .neq, some d => w6 d x y (.bin .neq x y) true
     | .eql, none | .neq, none => none
     | _, _ => some (.bin o x y)
   | _, _ => none
 | .unOp o _ x => (C.bV vars x).map (.un o)
 | .convert s d x => match C.P.underlying s, C.P.underlying d, C.bV vars x with
   | some (.int _), some (.int k), some x => some (.conv k x)
   | some (.slice e), some .string, some x => match C.P.underlying e with
     | some (.int .u8) => some (.tn x)
     | _ => none
   | _, _, _ => none
 | .makeInterface t x => match C.P.underlying t, C.bV vars x with
   | some (.interface _), _ => none
   | some _, some x => some (.zu t x)
   | _, _ => none
 | .makeFunc (.func f) a b => match C.Fq f, dH (C.bV vars) a.toList, dH (C.bV vars) b.toList with
   | some i, some a, some b => some (.r8 i a b)
   | _, _, _ => none
 | .makeMap _ none => some .mkMap
 | .makeSlice t l c => match C.P.underlying t with
   | some (.slice e) => match C.P.info? e, C.zeroCells e, C.bV vars l, C.bV vars c with
     | some i, some z, some l, some c => if i.size = 0 \/ z.length ≠ i.size then none else some (.mkSlice i.size z i.bytes l c)
     | _, _, _, _ => none
   | _ => none
 | .slice t x lo hi mx => match C.P.underlying t, C.bV vars x, C.oa vars lo, C.oa vars hi, C.oa vars mx with
   | some .string, some x, some lo, some hi, some none => some (.o1 x lo hi)
   | some (.slice e), some x, some lo, some hi, some mx => match C.sizeOf e with
     | some n => if n = 0 || (hi.isNone && mx.isSome) then none else some (.r9 n x lo hi mx)
     | none => none
   | _, _, _, _, _ => none
 | .fieldAddr s x f => match C.P.underlying s, C.bV vars x with
   | some (.struct fs), some x => match fs[f]? with
     | some a8 => match C.sizeOf a8.type with
       | some n => if n = 0 then none else some (.fieldAddr a8.offset x)
       | none => none
     | none => none
   | _, _ => none
 | .field s x f => match C.P.underlying s, C.bV vars x with
   | some (.struct fs), some x => match fs[f]? with
     | some a8 => (C.shapeOf a8.type).map fun sh => .field a8.offset sh x
     | none => none
   | _, _ => none
 | .indexAddr t x i => match C.P.underlying t, C.bV vars x, C.bV vars i with
   | some (.slice e), some x, some i => match C.sizeOf e with
     | some n => if n = 0 then none else some (.indexAddr n x i)
     | none => none
   | _, _, _ => none
 | .index t x i => match C.P.underlying t, C.bV vars x, C.bV vars i with
   | some .string, some x, some i => some (.p6 x i)
   | _, _, _ => none
 | .lookup t x i ok => match C.P.underlying t, C.bV vars x, C.bV vars i with
   | some (.map k e), some x, some i => match C.iQ k, C.zeroV e with
     | some bL, some z => if tr z then none else some (.lookup bL z x i ok)
     | _, _ => none
   | _, _, _ => none
 | .mapUpdate t m k v => match C.P.underlying t, C.bV vars m, C.bV vars k, C.bV vars v with
   | some (.map eh _), some m, some k, some v => (C.iQ eh).map fun bL => .o2 bL m k v
   | _, _, _, _ => none
 | .insert t m k v => match C.P.underlying t, C.bV vars m, C.bV vars k, C.bV vars v with
   | some (.map eh _), some m, some k, some v => (C.iQ eh).map fun bL => .o2 bL m k v
   | _, _, _, _ => none
 | .extract x i => (C.bV vars x).map fun x => .extract x i
 | .call { callee := .value f, args, .. } => match C.bV vars f, dH (C.bV vars) args.toList with
   | some f, some aY => some (.call (match f with | .func i => C.raw i | _ => false) f aY)
   | _, _ => none
 | .call { callee := .builtin b, args, argTypes } => C.builtin vars b args argTypes
 | _ => none
def op (vars : List Nat) (pos : String) (o : Op) : cH := (C.cI vars pos o).getD .fail
def guard (vars : List Nat) (ops : Array Oper) : Option (Nat × Bool) -> Option (Option (aj × Bool))
 | none => some none
 | some (j, want) => match (ops[j]?).bind (·.dst) with
   | some d => some (some (if vars.contains d then .var d else .tmp d, want))
   | none => none
def oper (vars : List Nat) (n : Nat) (ops : Array Oper) (o : Oper) : Option b3 :=
 match guard vars ops o.guard with
 | some g => match o.dst with
   | none => some { dst := none, op := C.op vars o.pos o.op, guard := g }
   | some d => if d < n then some { dst := some (d, vars.contains d), op := C.op vars o.pos o.op, guard := g } else none
 | none => none
def w7 (ops : Array Oper) : Bool :=
 ops.toList.zipIdx.all fun (o, i) => o.after.all fun e => match e.ground with | .gcOnly _ => true | _ => decide (e.on < i)
def tmpsOf (xs : Array Operand) : List Nat := xs.toList.filterMap fun | .tmp t => some t | _ => none
def fq (ops : Array Oper) (o : Oper) : List Nat :=
 tmpsOf o.op.operands ++ (match o.guard with | some (j, _) => ((ops[j]?).bind (·.dst)).toList | none => [])
def w8 (ops : Array Oper) : Bool :=
 let b := CheckFast.beforeF ops
 ops.toList.zipIdx.all fun (o, j) => ops.toList.zipIdx.all fun (p, i) =>
  match p.dst with
  | none => true
  | some d => i == j || !(o.dst == some d || (fq ops o).contains d) || (b.getD (max i j) 0).testBit (min i j)
def vr (ops : Array Oper) (o : Oper) (a : b3) : Bool :=
 a.op.operands.all fun
   | .tmp t | .var t => (fq ops o).contains t
   | _ => true
def JZ (vars : List Nat) (n : Nat) (ops : Array Oper) : Option cm := match C.zy, ops.toList.getLast? with
 | [], _ => none
 | _, some gQ => match gQ.op, gQ.guard with
   | .defer { callee := .value f, args, .. }, none => match args.toList, dH (C.oper vars n ops) ops.toList.dropLast, C.bV vars f with
     | [], some bz, some k8 => if gQ.dst.isNone then some (.w4 bz C.zy k8) else none
     | _, _, _ => none
   | _, _ => none
 | _, none => none
def code (vars : List Nat) (n : Nat) : Code -> Option cm
 | .skip => some .skip
 | .region _ ops draw => match (if draw then none else C.JZ vars n ops) with
   | some r => some r
   | none => match dH (C.oper vars n ops) ops.toList with
     | some bz => if !draw then some (.region bz none)
     else if w7 ops && w8 ops && (ops.toList.zip bz).all (fun (o, a) => vr ops o a) then some (.region bz (some (CheckFast.beforeF ops).toList)) else none
     | none => none
 | .seq a b => match code vars n a, code vars n b with
   | some a, some b => some (.seq a b)
   | _, _ => none
 | .cond c t e => match C.bV vars c, code vars n t, code vars n e with
   | some c, some t, some e => some (.cond c t e)
   | _, _, _ => none
 | .block id c => (code vars n c).map (.block id)
 | .loop c => (code vars n c).map .loop
 | .rangeFunc f ps a b => match C.bV vars f, code vars n a, code vars n b with
   | some f, some a, some b => if ps.all (fun t => decide (t < n) && vars.contains t) then some (.rangeFunc f ps.toList a b) else none
   | _, _, _ => none
 | .exit id => some (.exit id)
 | .ret => some .ret
 | _ => some .fail
def vt : Code -> List Nat
 | .region _ ops _ => (ops.toList.foldl (fun (acc : List Nat × List Nat) o =>
  let g := match o.guard with | some (j, _) => ((ops[j]?).bind (·.dst)).toList | none => []
  let reads := (g ++ tmpsOf o.op.operands).filter fun t => !acc.2.contains t
  (acc.1 ++ reads, o.dst.toList ++ acc.2)) ([], [])).1
 | .seq a b => vt a ++ vt b
 | .cond c t e => tmpsOf #[c] ++ vt t ++ vt e
 | .block _ c | .loop c => vt c
 | .rangeFunc f ps a b => tmpsOf #[f] ++ ps.toList ++ vt a ++ vt b
 | _ => []
def res : ResultVar -> Option lN
 | .tmp t => some (.tmp t)
 | .cell a t => (C.shapeOf t).map (.cell a)
def p9 : List ResultVar -> List Nat
 | [] => []
 | .tmp t :: r => t :: p9 r
 | .cell a _ :: r => a :: p9 r
def varsOf (f : Func) : List Nat :=
 ((List.range (f.params.size + f.nfree) ++ p9 f.results.toList ++ (match f.body with | some c => vt c | none => [])).eraseDups)
def func (f : Func) (fresh : Bool) : Option iw :=
 match f.body with
 | some c => match C.code (varsOf f) f.ntmps c, dH C.res f.results.toList with
   | some b, some rs => if f.name == "runtime.NumGoroutine" then none else some { vl := f.ntmps, body := b, results := rs, fresh }
   | _, _ => none
 | none => none
end Ctx
end Go.Abs
namespace Go.Abs
def sd (a b : c3) : Prop := ∀ f args H r, a f args H = some r -> b f args H = some r
variable {call ob : c3}
theorem tw (h : sd call ob) {ag : aj -> V} {H : Heap} {low : Nat} {op : cH} {r : V × Heap × Nat} (he : b9 call ag H low op = some r) : b9 ob ag H low op = some r := by
 cases op with
 | call raw f args =>
   cases raw
   · simp only [b9] at he ⊢
     split at he
     · rename_i vs H1 b0 h1
       split at he
       · rename_i u H2 l h2
         rw [h _ _ _ _ h2]
         exact he
       · cases he
     · cases he
   · simp only [b9] at he ⊢
     split at he
     · rename_i u H2 l h2
       rw [h _ _ _ _ h2]
       exact he
     · cases he
 | _ => exact he
theorem w9 (h : sd call ob) : ∀ (ops : List b3) (st : au) (wr : List Bool) (r : au × List Bool), c9 call ops st wr = some r -> c9 ob ops st wr = some r
 | [], st, wr, r, he => he
 | o :: ops, st, wr, r, he => by
   simp only [c9] at he ⊢
   split at he
   · rename_i hw
     try simp only [hw]
     split at he
     · rename_i v H' low' h1
       rw [tw h h1]
       exact w9 h ops _ _ _ he
     · cases he
   · rename_i hw
     try simp only [hw]
     exact w9 h ops _ _ _ he
   · cases he
theorem xa (h : sd call ob) : ∀ (ops : List b3) (st : au) (r : List au), gD call ops st = some r -> gD ob ops st = some r
 | [], st, r, he => he
 | o :: ops, st, r, he => by
   simp only [gD] at he ⊢
   split at he
   · rename_i hw
     try simp only [hw]
     split at he
     · rename_i v H' low' h1
       rw [tw h h1]
       obtain ⟨x, hx, rfl⟩ := cD.1 he
       simp only []
       rw [xa h ops _ _ hx]; rfl
     · cases he
   · rename_i hw
     try simp only [hw]
     obtain ⟨x, hx, rfl⟩ := cD.1 he
     rw [xa h ops _ _ hx]; rfl
   · cases he
theorem zA (h : sd call ob) {q : b3 × au × Heap} (he : kk call q = true) : kk ob q = true := by
 unfold kk at he ⊢
 split at he
 · rename_i hw; try simp only [hw]
 · rename_i hw
   try simp only [hw]
   split at he
   · rename_i v H1 b0 h1
     rw [tw h h1]
     simp only []
     split at he
     · rename_i v2 H2 dv h2
       rw [tw h h2]
       exact he
     · cases he
   · cases he
 · cases he
theorem Zb (h : sd call ob) {dK : List Nat} {ops : List b3} {wr : List Bool} {st : au} (he : sb call dK ops wr st = true) : sb ob dK ops wr st = true := by
 unfold sb at he ⊢
 split at he
 · rename_i cB ht
   rw [xa h _ _ _ ht]
   simp only [cd, fo] at he ⊢
   exact ⟨he.1, fun q bD => zA h (he.2 q bD)⟩
 · cases he
theorem J0 (h : sd call ob) {dK : List Nat} {ops : List b3} {wr : List Bool} {st : au} (he : n8 call dK ops wr st = true) : n8 ob dK ops wr st = true := by
 unfold n8 at he ⊢
 simp only [kG] at he ⊢
 rcases he with he | he
 · exact .inl (Zb h he)
 · right
   split at he
   · rename_i cB ht
     rw [xa h _ _ _ ht]
     simp only [cd, fo] at he ⊢
     exact ⟨he.1, fun q bD => zA h (he.2 q bD)⟩
   · cases he
theorem Ft {f k7 : au -> Option (X × au)} (h : ∀ st r, f st = some r -> k7 st = some r) : ∀ (n m : Nat) (st : au) (r : X × au), n <= m -> iter f n st = some r -> iter k7 m st = some r
 | 0, _, _, _, _, he => by cases he
 | n + 1, 0, _, _, hle, _ => by omega
 | n + 1, m + 1, st, r, hle, he => by
   simp only [iter] at he ⊢
   split at he
   · rename_i bW h1
     rw [h _ _ h1]
     exact Ft h n m _ _ (by omega) he
   · rename_i bA
     rw [h _ _ he]
     split
     · rename_i aU e; cases e; exact absurd he (bA _)
     · rfl
theorem qU (h : sd call ob) {n m : Nat} (hle : n <= m) : ∀ (c : cm) (st : au) (r : X × au), exec call n c st = some r -> exec ob m c st = some r
 | .skip, st, r, he => he
 | .w4 ops ok f, st, r, he => by
   simp only [exec] at he ⊢
   split at he
   · rename_i bW wr h1
     rw [w9 h _ _ _ _ h1]
     exact he
   · cases he
 | .region ops dK, st, r, he => by
   simp only [exec, au.fz] at he ⊢
   split at he
   · rename_i bW wr h1
     rw [w9 h _ _ _ _ h1]
     cases dK with
     | none => exact he
     | some b =>
       simp only at he ⊢
       split at he
       · rename_i hb
         rw [if_pos]
         · exact he
         · simp only [kG] at hb ⊢
           exact hb.imp id (J0 h)
       · cases he
   · cases he
 | .seq a b, st, r, he => by
   simp only [exec, au.fz] at he ⊢
   split at he
   · rename_i bW h1
     rw [qU h hle a _ _ h1]
     exact qU h hle b _ _ he
   · rename_i bA
     rw [qU h hle a _ _ he]
     split
     · rename_i bW e; cases e; exact absurd he (bA _)
     · rfl
 | .cond c t e, st, r, he => by
   simp only [exec, au.fz] at he ⊢
   split at he
   · exact qU h hle t _ _ he
   · exact qU h hle e _ _ he
   · cases he
 | .block id c, st, r, he => by
   simp only [exec, au.fz] at he ⊢
   split at he
   · rename_i sc bW h1
     rw [qU h hle c _ _ h1]
     exact he
   · rename_i bA
     rw [qU h hle c _ _ he]
     split
     · rename_i sc bW e; cases e; exact absurd he (bA _ _)
     · rfl
 | .loop c, st, r, he => by
   simp only [exec, au.fz] at he ⊢
   exact Ft (fun st r hr => qU h hle c st r hr) n m st r hle he
 | .rangeFunc f ps a b, st, r, he => by
   simp only [exec, au.fz] at he ⊢
   split at he
   · cases he
   · rename_i hc
     try rw [if_neg hc]
     split at he
     · rename_i u H1 b0 h1
       rw [h _ _ _ _ h1]
       exact he
     · cases he
 | .exit id, st, r, he => he
 | .ret, st, r, he => he
 | .fail, st, r, he => he
def J1 (ex ex' : cm -> au -> Option (X × au)) : Prop := ∀ c st r, ex c st = some r -> ex' c st = some r
theorem PV {ex ex' : cm -> au -> Option (X × au)} (h : J1 ex ex') {f : iw} {args : List V} {H : Heap} {r : V × Heap × Nat} (he : jl ex f args H = some r) : jl ex' f args H = some r := by
 unfold jl at he ⊢
 split at he
 · rename_i hl
   rw [if_pos hl]
   split at he
   · rename_i st h1; rw [h _ _ _ h1]; exact he
   · rename_i st h1; rw [h _ _ _ h1]; exact he
   · cases he
 · cases he
theorem PW {ex ex' : cm -> au -> Option (X × au)} (h : J1 ex ex') {l : Nat} {args : List V} {H : Heap} {r : V × Heap × Nat} (he : n9 ex l args H = some r) : n9 ex' l args H = some r := by
 unfold n9 at he ⊢
 split at he
 · split at he
   · rename_i hl
     simp only [hl, if_true]
     split at he
     · rename_i st h1
       simp only [h _ _ _ h1]
       split at he
       · rename_i h2
         try simp only [h2]
         split at he
         · rename_i av
           simp only [h _ _ _ av]
           exact he
         · cases he
       · cases he
     · cases he
   · cases he
 · cases he
theorem PX (ad : Nat -> Option ca) : ∀ n, sd (cu ad n) (cu ad (n + 1))
 | 0 => fun f args H r he => by simp [cu] at he
 | n + 1 => fun f args H r he => by
   have hx : J1 (exec (cu ad n) n) (exec (cu ad (n + 1)) (n + 1)) := fun c st r hr => qU (PX ad n) (Fm n) c st r hr
   show p8 ad (cu ad (n + 1)) (n + 1) f args H = some r
   change p8 ad (cu ad n) n f args H = some r at he
   unfold p8 at he ⊢
   split at he
   · split at he
     · rename_i h1; try simp only [h1]
       exact PV hx he
     · rename_i h1; try simp only [h1]
       exact he
     · cases he
   · exact PW hx he
   · cases he
theorem lR (ad : Nat -> Option ca) {n : Nat} : ∀ {m : Nat}, n <= m -> sd (cu ad n) (cu ad m)
 | 0, h => by have : n = 0 := by omega
              subst this; exact fun _ _ _ _ h => h
 | m + 1, h => by
   rcases gg n (m + 1) with h1 | h1
   · exact fun f args H r he => PX ad m f args H r (lR ad (m := m) (by omega) f args H r he)
   · have : n = m + 1 := by omega
     subst this; exact fun _ _ _ _ h => h
open Classical in
noncomputable def cK (ad : Nat -> Option ca) : c3 := fun f args H => if h : ∃ r n, cu ad n f args H = some r then some h.choose else none
open Classical in
noncomputable def dO (ad : Nat -> Option ca) (c : cm) (st : au) : Option (X × au) := if h : ∃ r n, exec (cu ad n) n c st = some r then some h.choose else none
variable {ad : Nat -> Option ca}
theorem tx {f : V} {args : List V} {H : Heap} {r : V × Heap × Nat} : cK ad f args H = some r ↔ ∃ n, cu ad n f args H = some r := by
 unfold cK
 constructor
 · intro h
   split at h
   · rename_i hex; cases h; exact hex.choose_spec
   · cases h
 · rintro ⟨n, hn⟩
   have hex : ∃ r n, cu ad n f args H = some r := ⟨r, n, hn⟩
   rw [dif_pos hex]
   obtain ⟨m, hm⟩ := hex.choose_spec
   have a := lR ad (r4 n m) _ _ _ _ hn
   have b := lR ad (qO n m) _ _ _ _ hm
   rw [a] at b
   exact b.symm
theorem tz {n m : Nat} (hle : n <= m) {c : cm} {st : au} {r : X × au} (h : exec (cu ad n) n c st = some r) : exec (cu ad m) m c st = some r := qU (lR ad hle) hle c st r h
theorem fS {c : cm} {st : au} {r : X × au} : dO ad c st = some r ↔ ∃ n, exec (cu ad n) n c st = some r := by
 unfold dO
 constructor
 · intro h
   split at h
   · rename_i hex; cases h; exact hex.choose_spec
   · cases h
 · rintro ⟨n, hn⟩
   have hex : ∃ r n, exec (cu ad n) n c st = some r := ⟨r, n, hn⟩
   rw [dif_pos hex]
   obtain ⟨m, hm⟩ := hex.choose_spec
   have a := tz (r4 n m) hn
   have b := tz (qO n m) hm
   rw [a] at b
   exact b.symm
theorem BL (n : Nat) : sd (cu ad n) (cK ad) := fun _ _ _ _ h => tx.2 ⟨n, h⟩
theorem vu {α : Type} {a b : Option α} (h : ∀ r, a = some r ↔ b = some r) : a = b := by
 cases a with
 | none => cases b with
   | none => rfl
   | some y => exact absurd ((h y).2 rfl) (by simp)
 | some x => exact ((h x).1 rfl).symm
theorem Fu {ag : aj -> V} {H : Heap} {low : Nat} {op : cH} {r : V × Heap × Nat} : b9 (cK ad) ag H low op = some r ↔ ∃ n, b9 (cu ad n) ag H low op = some r := by
 constructor
 · intro he
   cases op with
   | call raw f args =>
     cases raw
     · simp only [b9] at he ⊢
       split at he
       · rename_i vs H1 b0 h1
         split at he
         · rename_i u H2 l h2
           obtain ⟨n, hn⟩ := tx.1 h2
           exact ⟨n, by rw [hn]; exact he⟩
         · cases he
       · cases he
     · simp only [b9] at he ⊢
       split at he
       · rename_i u H2 l h2
         obtain ⟨n, hn⟩ := tx.1 h2
         exact ⟨n, by rw [hn]; exact he⟩
       · cases he
   | _ => exact ⟨0, he⟩
 · rintro ⟨n, hn⟩; exact tw (BL n) hn
theorem J2 : ∀ (ops : List b3) (st : au) (wr : List Bool) (r : au × List Bool), c9 (cK ad) ops st wr = some r -> ∃ n, c9 (cu ad n) ops st wr = some r
 | [], st, wr, r, he => ⟨0, he⟩
 | o :: ops, st, wr, r, he => by
   simp only [c9] at he ⊢
   split at he
   · rename_i hw
     split at he
     · rename_i v H' low' h1
       obtain ⟨n, hn⟩ := Fu.1 h1
       obtain ⟨m, hm⟩ := J2 ops _ _ _ he
       refine ⟨max n m, ?_⟩
       rw [tw (lR ad (r4 n m)) hn]
       exact w9 (lR ad (qO n m)) ops _ _ _ hm
     · cases he
   · rename_i hw
     obtain ⟨m, hm⟩ := J2 ops _ _ _ he
     exact ⟨m, hm⟩
   · cases he
theorem qa (st : au) : dO ad .skip st = some (.normal, st) := fS.2 ⟨0, rfl⟩
theorem qb (id : Nat) (st : au) : dO ad (.exit id) st = some (.exit id, st) := fS.2 ⟨0, rfl⟩
theorem qc (st : au) : dO ad .ret st = some (.ret, st) := fS.2 ⟨0, rfl⟩
theorem Fv : ∀ (ops : List b3) (st : au) (r : List au), gD (cK ad) ops st = some r -> ∃ n, gD (cu ad n) ops st = some r
 | [], st, r, he => ⟨0, he⟩
 | o :: ops, st, r, he => by
   simp only [gD] at he ⊢
   split at he
   · rename_i hw
     split at he
     · rename_i v H' low' h1
       obtain ⟨n, hn⟩ := Fu.1 h1
       obtain ⟨x, hx, rfl⟩ := cD.1 he
       obtain ⟨m, hm⟩ := Fv ops _ _ hx
       refine ⟨max n m, ?_⟩
       rw [tw (lR ad (r4 n m)) hn]
       simp only []
       rw [xa (lR ad (qO n m)) ops _ _ hm]; rfl
     · cases he
   · rename_i hw
     obtain ⟨x, hx, rfl⟩ := cD.1 he
     obtain ⟨m, hm⟩ := Fv ops _ _ hx
     exact ⟨m, by rw [hm]; rfl⟩
   · cases he
theorem Zc {q : b3 × au × Heap} (he : kk (cK ad) q = true) : ∃ n, kk (cu ad n) q = true := by
 unfold kk at he ⊢
 split at he
 · rename_i hw; exact ⟨0, by try simp only [hw]⟩
 · rename_i hw
   try simp only [hw]
   split at he
   · rename_i v H1 b0 h1
     split at he
     · rename_i v2 H2 dv h2
       obtain ⟨n, hn⟩ := Fu.1 h1
       obtain ⟨m, hm⟩ := Fu.1 h2
       refine ⟨max n m, ?_⟩
       rw [tw (lR ad (r4 n m)) hn, tw (lR ad (qO n m)) hm]
       exact he
     · cases he
   · cases he
 · cases he
theorem J3 : ∀ (l : List (b3 × au × Heap)), l.all (kk (cK ad)) = true -> ∃ n, l.all (kk (cu ad n)) = true
 | [], _ => ⟨0, rfl⟩
 | q :: l, he => by
   simp only [List.all_cons, cd] at he
   obtain ⟨n, hn⟩ := Zc he.1
   obtain ⟨m, hm⟩ := J3 l he.2
   refine ⟨max n m, ?_⟩
   simp only [List.all_cons, cd]
   refine ⟨zA (lR ad (r4 n m)) hn, ?_⟩
   rw [fo] at hm ⊢
   exact fun q bD => zA (lR ad (qO n m)) (hm q bD)
theorem Zd {dK : List Nat} {ops : List b3} {wr : List Bool} {st : au} (he : sb (cK ad) dK ops wr st = true) : ∃ n, sb (cu ad n) dK ops wr st = true := by
 unfold sb at he
 split at he
 · rename_i cB ht
   simp only [cd] at he
   obtain ⟨n, hn⟩ := Fv _ _ _ ht
   obtain ⟨m, hm⟩ := J3 _ he.2
   refine ⟨max n m, ?_⟩
   unfold sb
   rw [xa (lR ad (r4 n m)) _ _ _ hn]
   simp only [cd]
   refine ⟨he.1, ?_⟩
   rw [fo] at hm ⊢
   exact fun q bD => zA (lR ad (qO n m)) (hm q bD)
 · cases he
theorem Ze {dK : List Nat} {ops : List b3} {wr : List Bool} {st : au} (he : n8 (cK ad) dK ops wr st = true) : ∃ n, n8 (cu ad n) dK ops wr st = true := by
 unfold n8 at he
 simp only [kG] at he
 rcases he with he | he
 · obtain ⟨n, hn⟩ := Zd he
   exact ⟨n, by unfold n8; rw [hn]; rfl⟩
 · split at he
   · rename_i cB ht
     simp only [cd] at he
     obtain ⟨n, hn⟩ := Fv _ _ _ ht
     obtain ⟨m, hm⟩ := J3 _ he.2
     refine ⟨max n m, ?_⟩
     unfold n8
     rw [xa (lR ad (r4 n m)) _ _ _ hn]
     simp only [kG, cd]
     refine .inr ⟨he.1, ?_⟩
     rw [fo] at hm ⊢
     exact fun q bD => zA (lR ad (qO n m)) (hm q bD)
   · cases he
theorem mH (ops : List b3) (dK : Option (List Nat)) (st : au) : dO ad (.region ops dK) st = match c9 (cK ad) ops { st with aE := [] } [] with
  | some (aU, wr) => match dK with
    | none => some (.normal, { aU with aE := [] })
    | some b => if p7 b ops wr || n8 (cK ad) b ops wr { st with aE := [] } then some (.normal, { aU with aE := [] }) else none
  | none => none := by
 refine vu fun r => ?_
 rw [fS]
 constructor
 · rintro ⟨n, hn⟩
   simp only [exec, au.fz] at hn
   split at hn
   · rename_i bW wr h1
     rw [w9 (BL n) _ _ _ _ h1]
     cases dK with
     | none => exact hn
     | some b =>
       simp only at hn ⊢
       split at hn
       · rename_i hb
         rw [if_pos]
         · exact hn
         · simp only [kG] at hb ⊢
           exact hb.imp id (J0 (BL n))
       · cases hn
   · cases hn
 · intro h
   split at h
   · rename_i bW wr h1
     obtain ⟨n, hn⟩ := J2 _ _ _ _ h1
     cases dK with
     | none => exact ⟨n, by simp only [exec, au.fz]; rw [hn]; exact h⟩
     | some b =>
       simp only at h
       split at h
       · rename_i hb
         simp only [kG] at hb
         rcases hb with hb | hb
         · exact ⟨n, by simp only [exec, au.fz]; rw [hn]; simp only []; rw [hb]; exact h⟩
         · obtain ⟨m, hm⟩ := Ze hb
           refine ⟨max n m, ?_⟩
           simp only [exec, au.fz]
           rw [w9 (lR ad (r4 n m)) _ _ _ _ hn]
           simp only []
           rw [J0 (lR ad (qO n m)) hm, Bool.or_true]
           exact h
       · cases h
   · cases h
theorem jD (a b : cm) (st : au) : dO ad (.seq a b) st = match dO ad a st with
  | some (.normal, aU) => dO ad b aU
  | r => r := by
 refine vu fun r => ?_
 rw [fS]
 constructor
 · rintro ⟨n, hn⟩
   simp only [exec, au.fz] at hn
   split at hn
   · rename_i bW h1
     rw [fS.2 ⟨n, h1⟩]
     exact fS.2 ⟨n, hn⟩
   · rename_i bA
     rw [fS.2 ⟨n, hn⟩]
     split
     · rename_i bW e; cases e; exact absurd hn (bA _)
     · rfl
 · intro h
   split at h
   · rename_i bW h1
     obtain ⟨n, hn⟩ := fS.1 h1
     obtain ⟨m, hm⟩ := fS.1 h
     exact ⟨max n m, by simp only [exec, au.fz]; rw [tz (r4 n m) hn]; exact tz (qO n m) hm⟩
   · rename_i bA
     obtain ⟨n, hn⟩ := fS.1 h
     refine ⟨n, ?_⟩
     simp only [exec, au.fz]
     rw [hn]
     split
     · rename_i bW e; cases e; exact absurd h (bA _)
     · rfl
theorem oc (c : aj) (t e : cm) (st : au) : dO ad (.cond c t e) st = match c.ag st.aE st.aw with
  | .bool true => dO ad t st
  | .bool false => dO ad e st
  | _ => none := by
 refine vu fun r => ?_
 rw [fS]
 constructor
 · rintro ⟨n, hn⟩
   simp only [exec, au.fz] at hn
   split at hn
   · rename_i hc
     try simp only [hc]
     exact fS.2 ⟨n, hn⟩
   · rename_i hc
     try simp only [hc]
     exact fS.2 ⟨n, hn⟩
   · cases hn
 · intro h
   split at h
   · rename_i hc
     obtain ⟨n, hn⟩ := fS.1 h
     exact ⟨n, by simp only [exec, hc]; exact hn⟩
   · rename_i hc
     obtain ⟨n, hn⟩ := fS.1 h
     exact ⟨n, by simp only [exec, hc]; exact hn⟩
   · cases h
theorem nw (id : Nat) (c : cm) (st : au) : dO ad (.block id c) st = match dO ad c st with
  | some (.exit sc, aU) => if sc = id then some (.normal, aU) else some (.exit sc, aU)
  | r => r := by
 refine vu fun r => ?_
 rw [fS]
 constructor
 · rintro ⟨n, hn⟩
   simp only [exec, au.fz] at hn
   split at hn
   · rename_i h1
     rw [fS.2 ⟨n, h1⟩]
     exact hn
   · rename_i bA
     rw [fS.2 ⟨n, hn⟩]
     split
     · rename_i e; cases e; exact absurd hn (bA _ _)
     · rfl
 · intro h
   split at h
   · rename_i h1
     obtain ⟨n, hn⟩ := fS.1 h1
     exact ⟨n, by simp only [exec, au.fz]; rw [hn]; exact h⟩
   · rename_i bA
     obtain ⟨n, hn⟩ := fS.1 h
     refine ⟨n, ?_⟩
     simp only [exec, au.fz]
     rw [hn]
     split
     · rename_i e; cases e; exact absurd h (bA _ _)
     · rfl
theorem Zf {f : au -> Option (X × au)} {n m : Nat} {st : au} {r : X × au} (hle : n <= m) (h : iter f n st = some r) : iter f m st = some r := Ft (fun _ _ h => h) n m st r hle h
theorem se (c : cm) (st : au) : dO ad (.loop c) st = match dO ad c st with
  | some (.normal, aU) => dO ad (.loop c) aU
  | r => r := by
 refine vu fun r => ?_
 rw [fS]
 constructor
 · rintro ⟨n, hn⟩
   simp only [exec, au.fz] at hn
   cases n with
   | zero => cases hn
   | succ n =>
     simp only [iter] at hn
     split at hn
     · rename_i bW h1
       rw [fS.2 ⟨n + 1, h1⟩]
       exact fS.2 ⟨n + 1, by simp only [exec, au.fz]; exact Zf (Fm n) hn⟩
     · rename_i bA
       rw [fS.2 ⟨n + 1, hn⟩]
       split
       · rename_i e; cases e; exact absurd hn (bA _)
       · rfl
 · intro h
   split at h
   · rename_i bW h1
     obtain ⟨n, hn⟩ := fS.1 h1
     obtain ⟨m, hm⟩ := fS.1 h
     simp only [exec, au.fz] at hm
     refine ⟨max n m + 1, ?_⟩
     simp only [exec, iter]
     rw [tz (show n <= max n m + 1 by omega) hn]
     exact Ft (fun st r hr => tz (show m <= max n m + 1 by omega) hr) m (max n m) _ _ (qO n m) hm
   · rename_i bA
     obtain ⟨n, hn⟩ := fS.1 h
     refine ⟨n + 1, ?_⟩
     simp only [exec, iter]
     rw [tz (Fm n) hn]
     split
     · rename_i e; cases e; exact absurd h (bA _)
     · rfl
theorem PY (f : aj) (ps : List Nat) (a b : cm) (st : au) : dO ad (.rangeFunc f ps a b) st =
  if (BJ st.H st.ro && zw (f.ag st.aE st.aw)) = false then none else
  match cK ad (f.ag st.aE st.aw) [.yield st.H.length] (st.H ++ [.loop .ready .normal st.aw ps a b]) with
  | some (_, H', low') => match H'[st.H.length]? with
    | some (.loop ls sa _ _ _ _) => if ls = .busy then none else some (sa, { st with H := H'.set st.H.length .gone, low := min st.low low' })
    | _ => none
  | none => none := by
 refine vu fun r => ?_
 rw [fS]
 constructor
 · rintro ⟨n, hn⟩
   simp only [exec, au.fz] at hn
   split at hn
   · cases hn
   · rename_i hc
     rw [if_neg hc]
     split at hn
     · rename_i h1
       rw [BL n _ _ _ _ h1]
       exact hn
     · cases hn
 · intro h
   split at h
   · cases h
   · rename_i hc
     split at h
     · rename_i h1
       obtain ⟨n, hn⟩ := tx.1 h1
       exact ⟨n, by simp only [exec, au.fz]; rw [if_neg hc, hn]; exact h⟩
     · cases h
theorem sf (i : Nat) (first caps args : List V) (H : Heap) : cK ad (.fn i first caps) args H = match ad i with
  | some (.code fn) => jl (dO ad) fn (first ++ args ++ caps) H
  | some (.ext spec) => if ct (first ++ args ++ caps) then (spec (first ++ args ++ caps)).map fun v => (v, H, H.length) else none
  | none => none := by
 refine vu fun r => ?_
 rw [tx]
 constructor
 · rintro ⟨n, hn⟩
   cases n with
   | zero => simp [cu] at hn
   | succ n =>
     simp only [cu, p8] at hn
     split at hn
     · rename_i h1; try simp only [h1]
       exact PV (ex' := dO ad) (fun c st r h => fS.2 ⟨n, h⟩) hn
     · rename_i h1; try simp only [h1]
       exact hn
     · cases hn
 · intro h
   cases ht : ad i with
   | none => rw [ht] at h; cases h
   | some F =>
     rw [ht] at h
     cases F with
     | ext spec => exact ⟨1, by simp only [cu, p8, ht]; exact h⟩
     | code fn =>
       simp only at h
       unfold jl at h
       split at h
       · rename_i hl
         split at h
         · rename_i st h1
           obtain ⟨n, hn⟩ := fS.1 h1
           exact ⟨n + 1, by simp only [cu, p8, ht, jl]; rw [if_pos hl, hn]; exact h⟩
         · rename_i st h1
           obtain ⟨n, hn⟩ := fS.1 h1
           exact ⟨n + 1, by simp only [cu, p8, ht, jl]; rw [if_pos hl, hn]; exact h⟩
         · cases h
       · cases h
theorem Zg (l : Nat) (args : List V) (H : Heap) : cK ad (.yield l) args H = n9 (dO ad) l args H := by
 refine vu fun r => ?_
 rw [tx]
 constructor
 · rintro ⟨n, hn⟩
   cases n with
   | zero => simp [cu] at hn
   | succ n => exact PW (fun c st r h => fS.2 ⟨n, h⟩) hn
 · intro h
   unfold n9 at h
   split at h
   · rename_i hl
     split at h
     · rename_i hlen
       split at h
       · rename_i st h1
         split at h
         · rename_i h2
           split at h
           · rename_i av
             obtain ⟨n, hn⟩ := fS.1 h1
             obtain ⟨m, hm⟩ := fS.1 av
             refine ⟨max n m + 1, ?_⟩
             simp only [cu, p8, n9, hl, hlen, if_true]
             simp only [tz (r4 n m) hn, h2, tz (qO n m) hm]
             exact h
           · cases h
         · cases h
       · cases h
     · cases h
   · cases h
end Go.Abs
namespace Go.Abs
inductive Fw where
 | leaf
 | node (l : Fw) (k : Nat) (f : ca) (r : Fw)
def Fw.get : Fw -> Nat -> Option ca
 | .leaf, _ => none
 | .node l k f r, i => bif Nat.blt i k then l.get i else bif Nat.blt k i then r.get i else some f
def iR (l : List (List V × V)) : List V -> Option V := fun args => match l with
 | [] => none
 | (aY, v) :: r => bif mc args aY then some v else iR r args
def over (ad : Nat -> Option ca) (k : Nat) (spec : List V -> Option V) : Nat -> Option ca := fun i => bif Nat.beq i k then some (.ext spec) else ad i
def iS (ad : Nat -> Option ca) (n i : Nat) : List (List V × V) -> Prop
 | [] => True
 | (aY, v) :: r => (bO v = true /\ cu ad n (.fn i [] []) aY [] = some (v, [], 0)) /\ iS ad n i r
end Go.Abs
namespace Go.Abs.U
open Go Go.Abs
abbrev aq (n : Int) : V := .int .i64 n
def Zh : V := .agg [aq 36, .str [50], aq 7, aq 8, .c0]
def J4 : V := .list 5 [Zh]
def Zi : V := .agg [aq 3, .str [115], aq 0, aq 9, J4]
def J5 : V := .agg [aq 35, .str [115], aq 24, aq 25, .c0]
def Zj : V := .list 5 [J5]
def J6 : V := .agg [aq 11, .str [97], aq 21, aq 25, Zj]
def Zk : V := .list 5 [J6]
def BM : V := .agg [aq 10, .str [], aq 20, aq 26, Zk]
def PZ : V := .list 5 [BM]
def Zl : V := .agg [aq 4, .str [114], aq 10, aq 27, PZ]
def P0 : V := .agg [aq 18, .str [], aq 48, aq 50, .c0]
def P1 : V := .agg [aq 37, .str [49], aq 54, aq 55, .c0]
def Zm : V := .list 5 [P1]
def P2 : V := .agg [aq 19, .str [60, 61], aq 51, aq 55, Zm]
def Zn : V := .list 5 [P0, P2]
def P3 : V := .agg [aq 15, .str [114], aq 41, aq 55, Zn]
def Zo : V := .list 5 [P3]
def P4 : V := .agg [aq 8, .str [105], aq 28, aq 56, Zo]
def P5 : V := .agg [aq 35, .str [115], aq 72, aq 73, .c0]
def Zp : V := .list 5 [P5]
def P6 : V := .agg [aq 24, .str [112], aq 69, aq 73, Zp]
def Zq : V := .list 5 [P6]
def P7 : V := .agg [aq 23, .str [], aq 68, aq 74, Zq]
def P8 : V := .agg [aq 1, .str [], aq 74, aq 74, .c0]
def P9 : V := .agg [aq 35, .str [112], aq 86, aq 87, .c0]
def Qa : V := .list 5 [P9]
def Qb : V := .agg [aq 22, .str [114], aq 84, aq 88, Qa]
def Fx : V := .list 5 [Qb]
def Zr : V := .agg [aq 28, .str [], aq 77, aq 89, Fx]
def Qc : V := .list 5 [Zr]
def Qd : V := .agg [aq 25, .str [], aq 75, aq 91, Qc]
def Zs : V := .list 5 [P7, P8, Qd]
def Qe : V := .agg [aq 9, .str [111], aq 57, aq 91, Zs]
def Zt : V := .agg [aq 23, .str [], aq 103, aq 105, .c0]
def Qf : V := .agg [aq 1, .str [], aq 105, aq 105, .c0]
def Zu : V := .agg [aq 1, .str [], aq 112, aq 112, .c0]
def Fy : V := .agg [aq 36, .str [48], aq 115, aq 116, .c0]
def Zv : V := .list 5 [Fy]
def Qg : V := .agg [aq 22, .str [114], aq 113, aq 117, Zv]
def Qh : V := .list 5 [Zu, Zu, Qg]
def Zw : V := .agg [aq 21, .str [43], aq 113, aq 117, Qh]
def J7 : V := .list 5 [Zw]
def Zx : V := .agg [aq 20, .str [], aq 113, aq 117, J7]
def J8 : V := .agg [aq 36, .str [49], aq 121, aq 122, .c0]
def Zy : V := .list 5 [J8]
def Zz : V := .agg [aq 19, .str [62, 61], aq 118, aq 122, Zy]
def ZA : V := .list 5 [Zx, Zz]
def ZB : V := .agg [aq 27, .str [], aq 108, aq 123, ZA]
def vv : V := .agg [aq 36, .str [48], aq 133, aq 134, .c0]
def tA : V := .list 5 [vv]
def ZC : V := .agg [aq 22, .str [114], aq 131, aq 135, tA]
def Qi : V := .list 5 [ZC]
def ZD : V := .agg [aq 29, .str [], aq 124, aq 136, Qi]
def Qj : V := .agg [aq 36, .str [49], aq 146, aq 147, .c0]
def ZE : V := .list 5 [Qj]
def Qk : V := .agg [aq 22, .str [114], aq 144, aq 148, ZE]
def Ql : V := .list 5 [Qk]
def ZF : V := .agg [aq 28, .str [], aq 137, aq 149, Ql]
def ZG : V := .list 5 [ZB, ZD, ZF]
def ZH : V := .agg [aq 25, .str [], aq 106, aq 151, ZG]
def ZI : V := .list 5 [Zt, Qf, ZH]
def Qm : V := .agg [aq 9, .str [107], aq 92, aq 151, ZI]
def ZJ : V := .list 5 [Zi, Zl, P4, Qe, Qm]
def ZK : V := .agg [aq 2, .str [], aq 0, aq 151, ZJ]
def ZL : V := .agg [.str [115], aq 2]
def ZM : V := .list 2 [ZL]
def ZN : V := .agg [.str [114], aq 0, .list 1 [aq 0], aq 0, aq 1, aq 0]
def Qn : V := .list 6 [ZN]
def azz : V := .agg [.str [105], aq 7]
def azA : V := .list 2 [azz]
def azB : V := .agg [.str [112], aq 0, aq 0, aq 0]
def azC : V := .list 4 [azB]
def azD : V := .agg [.str [111], .bool false, azC, aq 12]
def azE : V := .agg [.str [107], .bool false, .c0, aq 21]
def azF : V := .list 4 [azD, azE]
def wc : V := .agg [aq 2, .str [], aq 0, aq 151, ZJ, ZM, Qn, azA, azF]
def HM : V := .str [115, 111, 114, 116, 32, 115, 32, 50, 59, 32, 114, 101, 108, 97, 116, 105, 111, 110, 32, 114, 40, 97, 58, 32, 115, 41, 59, 32, 105, 110, 118, 97, 114, 105, 97, 110, 116, 32, 105, 58, 32, 99, 111, 117, 110, 116, 32, 114, 40, 41, 32, 60, 61, 32, 49, 59, 32, 111, 112, 101, 114, 97, 116, 105, 111, 110, 32, 111, 40, 112, 58, 32, 115, 41, 32, 123, 32, 105, 110, 115, 101, 114, 116, 32, 114, 40, 112, 41, 59, 32, 125, 32, 111, 112, 101, 114, 97, 116, 105, 111, 110, 32, 107, 40, 41, 32, 123, 32, 104, 111, 108, 100, 32, 114, 40, 48, 41, 32, 62, 61, 32, 49, 59, 32, 100, 101, 108, 101, 116, 101, 32, 114, 40, 48, 41, 59, 32, 105, 110, 115, 101, 114, 116, 32, 114, 40, 49, 41, 59, 32, 125]
def XE : V := .agg [aq 0, aq (-1)]
def DH : V := .list 2 [XE]
def zs : V := .agg [aq 0, aq 0, DH, aq 0, aq 0, aq 0]
def XV : V := .agg [aq 0, aq 1]
def DI : V := .list 2 [XV]
def AE : V := .agg [aq 0, aq 0, DI, aq 1, aq 0, aq 0]
def azG : V := .agg [aq 1, aq (-1)]
def Na : V := .list 2 [azG]
def Bs : V := .agg [aq 0, aq 0, Na, aq 0, aq 0, aq 0]
def Nb : V := .agg [aq 1, aq 1]
def DJ : V := .list 2 [Nb]
def Du : V := .agg [aq 0, aq 0, DJ, aq 1, aq 0, aq 0]
def Nd : V := .list 2 [XV, Nb]
def DK : V := .agg [aq 0, aq 1, Nd, aq 1, aq 0, aq 0]
def Ye : V := .list 6 [zs, AE, Bs, Du, DK]
def azH : V := .list 1 [.str [114], .str [105]]
def azI : V := .agg [.str [111], .bool false, .list 1 [aq 0]]
def azJ : V := .agg [.str [107], .bool false, .c0]
def azK : V := .list 3 [azI, azJ]
def azL : V := .agg [aq 0, .list 1 [aq 0], DI, .c0, .c0]
def azM : V := .agg [aq 0, .list 1 [aq 1], DJ, .c0, .c0]
def Yf : V := .list 2 [XE, Nb]
def azN : V := .agg [DH, aq (-1)]
def afO : V := .list 2 [azN]
def azO : V := .agg [aq 1, .c0, Yf, afO, .c0]
def azP : V := .list 5 [azL, azM, azO]
def nf : V := .agg [.list 1 [aq 2], Qn, azH, Ye, azK, azP, .c0]
def rI : V := .list 1 [aq 0, aq 0]
def uG : V := .list 1 [aq 1, aq 0]
def DL : V := .list 1 [aq 1, aq 1]
def Nf : V := .agg [aq 0, aq 0, DH, aq (-1), aq 0, aq 0]
def oK : V := .list 1 [aq 0, aq 1]
def afP : V := .list 1 [aq 2, aq 0]
def HN : V := .list 1 [aq 0, aq 2]
def HO : V := .agg [aq 0, aq 0]
def HP : V := .agg [aq 2, aq 4]
def agn : V := .ba [oK, HO]
def HQ : V := .agg [aq 1, aq 0]
def ago : V := .agg [DJ, .c0, .c0]
def ag2 : V := .agg [Yf, afO, .c0]
end Go.Abs.U
