/- A world for the witness: the variables hold what their initialisers lay. -/
import Derived.Test.YteiajndkjnlmiaaGreatDoorXT09K
import Derived.Deep.DeepWitnessRowRef
set_option linter.unusedVariables false
set_option linter.unusedSimpArgs false
namespace Go.Proofs.YteiajndkjnlmiaaGreatDoor
open Go Go.Abs Go.Abs.T09 Go.Proofs
set_option maxRecDepth 100000

def litsOf : DataW Unit → List Value
  | .agg xs => xs.map fun x => match x with
    | .lit (.int k n) => .int k n
    | _ => .tuple #[]
  | _ => []
def wordOf : DataW Unit → Value
  | .iface _ (.ptr (.agg [.lit (.string s)])) => .string ⟨⟨s⟩⟩
  | _ => .tuple #[]
def rowsOf : DataW Unit → List Value
  | .ptr (.agg (.slice xs _ :: _)) => xs.flatMap litsOf
  | _ => []

/-- The blocks that the variables point to. -/
def more : Array Obj := #[.cells #[wordOf Rows.laid_strconv_ErrRange] 171 (0, 0), .cells #[wordOf Rows.laid_strconv_ErrSyntax] 171 (0, 0),
  .cells #[.slice (some ⟨17, 0, none⟩) 7 7, .slice none 0 0, .int .i64 2] 160 (0, 0), .cells (rowsOf Rows.laid_unicode_White_Space).toArray 163 (0, 0)]

def setTo (cs : Array Value) : Obj → Obj
  | .cells _ t f => .cells cs t f
  | o => o

noncomputable def laidWorld (os : Os) : World :=
  { World.holding Tryz.prog os ⟨more, #[], []⟩ with heap := (((((((World.holding Tryz.prog os ⟨more, #[], []⟩).heap.modify 1 (setTo (litsOf Rows.laid_strings_asciiSpace).toArray)).modify 2 (setTo (litsOf Rows.laid_internal_strconv_uint64pow10).toArray)).modify 3 (setTo #[.pointer (some ⟨16, 0, none⟩)])).modify 4
      (setTo #[.iface 169 (.pointer (some ⟨15, 0, none⟩))])).modify 5 (setTo #[.iface 169 (.pointer (some ⟨14, 0, none⟩))])).modify 6 (setTo (litsOf Rows.laid_math_bits_deBruijn32tab).toArray)).modify 7 (setTo (litsOf Rows.laid_math_bits_deBruijn64tab).toArray) }

theorem own : ownKnob Tryz.prog.godebug = none := by kernel_rfl
end Go.Proofs.YteiajndkjnlmiaaGreatDoor
