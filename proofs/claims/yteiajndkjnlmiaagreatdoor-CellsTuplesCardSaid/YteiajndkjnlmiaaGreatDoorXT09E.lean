/- The functions of the library that the program calls: the executor's words for them are the shelf's contracts. -/
import Derived.Test.YteiajndkjnlmiaaGreatDoorXeCall3
import Derived.Test.YteiajndkjnlmiaaGreatDoorXT09A
import Derived.Test.YteiajndkjnlmiaaGreatDoorXT09C
import Derived.Test.YteiajndkjnlmiaaGreatDoorXT09S
set_option linter.unusedVariables false
set_option linter.unusedSimpArgs false
namespace Go.Abs.T09
open Go Go.Abs Go.Proofs

variable {fid : Nat → Nat} {g : Nat → Option Obj}

set_option maxRecDepth 100000 in
theorem ext_of_calls {i : Nat} {fn : Func} (hf : Tryz.prog.funcs[i]? = some fn) (hb : fn.body.isSome = true) (hn : (fn.name == "runtime.NumGoroutine") = false) {R : Value → World → Prop} {xs : List Value} {w : World}
    (h : Calls Tryz.prog i ⟨xs⟩ w fun e w' => ∃ x, e = .returned x ∧ R x w') : NextRuns (C g).P R ((callFunc i ⟨xs⟩).run (C g).P w) := by
  obtain ⟨c, hc⟩ := Option.isSome_iff_exists.1 hb
  rw [callFunc_run (C := C g) hf hc hn]; exact h

theorem pstr {w : World} {I : Nat → Prop} {s : List UInt8} {x : Value} (h : PRel w I (.str s) x) : x = .string ⟨⟨s⟩⟩ := by cases h; rfl

theorem body19 : Tryz.f19.body.isSome = true := by kernel_rfl
theorem name19 : (Tryz.f19.name == "runtime.NumGoroutine") = false := by kernel_rfl
theorem body89 : Tryz.f89.body.isSome = true := by kernel_rfl
theorem name89 : (Tryz.f89.name == "runtime.NumGoroutine") = false := by kernel_rfl
theorem body77 : Tryz.f77.body.isSome = true := by kernel_rfl
theorem name77 : (Tryz.f77.name == "runtime.NumGoroutine") = false := by kernel_rfl
theorem body86 : Tryz.f86.body.isSome = true := by kernel_rfl
theorem name86 : (Tryz.f86.name == "runtime.NumGoroutine") = false := by kernel_rfl

set_option maxRecDepth 100000 in
theorem join_ok : ExtOk (C g) id 19 xJoin := by
  intro G H w args v xs hR hxs hs
  unfold xJoin at hs
  split at hs
  · rename_i sep
    cases hs
    cases hxs with
    | cons _ x _ xs h1 hs1 =>
      cases hs1 with
      | cons _ y _ ys h2 hs2 =>
        cases hs2
        cases h1
        obtain rfl := pstr h2
        refine ext_of_calls Tryz.func19 body19 name19 ((Tryz.strings_Join_none none 0 _ w).mono ?_)
        rintro e w' ⟨rfl, rfl⟩
        exact ⟨_, rfl, G, hR, fun m _ => .refl _ _ _ _, .p _ _ (.str [])⟩
  · cases hs

set_option maxRecDepth 100000 in
theorem indexByte_ok : ExtOk (C g) id 89 xIndexByte := by
  intro G H w args v xs hR hxs hs
  unfold xIndexByte at hs
  split at hs
  · rename_i s c
    cases hs
    cases hxs with
    | cons _ x _ xs h1 hs1 =>
      cases hs1 with
      | cons _ y _ ys h2 hs2 =>
        cases hs2
        cases h2
        obtain rfl := pstr h1
        refine ext_of_calls Tryz.func89 body89 name89 ((Tryz.strings_IndexByte _ c w).mono ?_)
        rintro e w' ⟨rfl, rfl⟩
        exact ⟨_, rfl, G, hR, fun m _ => .refl _ _ _ _, .p _ _ (.int .i64 _)⟩
  · cases hs

set_option maxRecDepth 100000 in
theorem atoi_ok : ExtOk (C g) id 77 xAtoi := by
  intro G H w args v xs hR hxs hs
  unfold xAtoi at hs
  split at hs
  · rename_i s
    split at hs
    · rename_i hl
      obtain ⟨n, hn, rfl⟩ := Option.map_eq_some_iff.1 hs
      cases hxs with
      | cons _ x _ xs h1 hs1 =>
        cases hs1
        obtain rfl := pstr h1
        refine ext_of_calls Tryz.func77 body77 name77 ((Tryz.strconv_Atoi ⟨⟨s⟩⟩ n hl hn w).mono ?_)
        rintro e w' ⟨rfl, t, rfl⟩
        have hsz : w.heap.size ≤ (Lib.bytesWorld w 5 t).heap.size := by
          unfold Lib.bytesWorld World.freeze
          have h0 : w.drew.heap = w.heap := rfl
          split <;> simp [h0]
        have hk : ∀ b, b < w.heap.size → (Lib.bytesWorld w 5 t).heap[b]? = w.heap[b]? := fun b hb => by
          have h1 : (w.drew.alloc (.cells (Lib.bytesCells w 5 t) 5)).heap[b]? = w.heap[b]? := alloc_old (w := w.drew) hb
          unfold Lib.bytesWorld World.freeze
          split
          · exact h1
          · show (Array.modify _ _ _)[b]? = _
            rw [Array.getElem?_modify, if_neg (fun e => by have e' : w.heap.size = b := e
                                                           omega)]
            exact h1
        have hos : (Lib.bytesWorld w 5 t).os = w.os ∧ (Lib.bytesWorld w 5 t).tape = w.tape ∧ (Lib.bytesWorld w 5 t).output = w.output := by
          unfold Lib.bytesWorld World.freeze
          split <;> exact ⟨rfl, rfl, rfl⟩
        refine ⟨_, rfl, G, hR.restore hsz hk, fun m _ => .restore hsz hk hos.1 hos.2.1 hos.2.2 m _, .p _ _ (.tup _ _ (.cons _ _ _ _ (.int .i64 n) (.cons _ _ _ _ .nili .nil)))⟩
    · cases hs
  · cases hs

theorem fields_rels {w : World} {I : Nat → Prop} : ∀ (l : List (List UInt8)), PRels w I ((l.map V.str).flatMap cellsV) (l.map fun x => Value.string ⟨x.toArray⟩)
  | [] => .nil
  | a :: l => .cons _ _ _ _ (.str a) (fields_rels l)

set_option maxRecDepth 100000 in
theorem fields_ok (htab : ∀ (G : Gh) (H : Heap) (w : World), RelH (C g) id G H w → Lib.TabIs Tryz.prog w "strings.asciiSpace" .u8 Lib.asciiSpaceTab) : ExtOk (C g) id 86 xFields := by
  intro G H w args v xs hR hxs hs
  unfold xFields at hs
  split at hs
  · rename_i s
    split at hs
    · rename_i hc
      simp only [Bool.and_eq_true, decide_eq_true_eq] at hc
      cases hs
      cases hxs with
      | cons _ x _ xs h1 hs1 =>
        cases hs1
        obtain rfl := pstr h1
        refine ext_of_calls Tryz.func86 body86 name86 ((Tryz.strings_Fields ⟨⟨s⟩⟩ w hc.2 (fun j b hb => ?_) (htab G H w hR)).mono ?_)
        · have := List.all_eq_true.1 hc.1 b (List.mem_of_getElem? hb)
          have h' := UInt8.lt_iff_toNat_lt.1 (of_decide_eq_true this)
          simpa using h'
        rintro e w' ⟨rfl, rfl⟩
        refine ⟨_, rfl, ⟨G.β, fun b => G.I b ∨ (b = w.heap.size ∧ True)⟩, hR.allocI _ True, fun m _ => .allocI _ True m _, ?_⟩
        refine .p _ _ ?_
        cases hf : Lib.fields s with
        | nil => simp only [List.isEmpty_nil, if_true, List.length_nil]; exact .emp _
        | cons a r =>
          simp only [List.isEmpty_cons, Bool.false_eq_true, if_false]
          rw [← List.length_map (f := V.str)]
          refine .list 1 _ _ 0 _ _ (.inr ⟨rfl, trivial⟩) ?_ (fun d hd => ?_) (fields_rels (a :: r)) (Nat.le_refl _)
          · intro j x hx
            rw [cell_of_cells (alloc_new w _), Nat.zero_add, ← Array.getElem?_toList]
            exact hx
          · obtain ⟨y, -, rfl⟩ := List.mem_map.1 hd
            rfl
    · cases hs
  · cases hs

end Go.Abs.T09
