/- CellsNumbers answers true at every input, and leaves its arguments as they were: the card. -/
import Derived.Test.YteiajndkjnlmiaaGreatDoorP07
import Derived.Test.YteiajndkjnlmiaaGreatDoorP11
set_option linter.unusedVariables false
set_option linter.unusedSimpArgs false
namespace Go.Proofs.YteiajndkjnlmiaaGreatDoor.numbers
open Go Go.Abs Go.Abs.T09 Go.Proofs Go.ChangeShapes Go.WideShapes Go.ChangeAt Go.RowKit
set_option maxRecDepth 100000

/-- What the sizes of a call say of one argument. -/
theorem near_of {H : Type} {ts : List TypeId} {ds : List (DataW H)} (h : (DataW.weightsEach Tryz.prog ts ds).all (· ≤ reachBytes) = true) {j : Nat} {t : TypeId} {d : DataW H} (ht : ts[j]? = some t) (hd : ds[j]? = some d) : Near Tryz.prog t d := fun n hn => by
  have := List.all_eq_true.1 h n (DataW.weights_mem_each ht hd n hn)
  simpa using this

section
variable {W : World} {H : Type} {enc : TypeId × Value → H}
theorem frag3 : frag Tryz.prog 8 3 = true := by kernel_rfl
theorem lt3 : 3 < Tryz.prog.types.size := of_decide_eq_true (by kernel_rfl)
theorem one3 {b : Nat} {v : Value} (hval : Value.okWide Tryz.prog W .any b 3 v) : v.cells.toList = [v] := by
  unfold Value.okWide at hval
  rw [Tryz.underlying3] at hval
  simp only [Cell.okWide, Tryz.underlying3] at hval
  cases v <;> first | rfl | (simp [Cell.ok, Tryz.underlying3] at hval)
/-- A number that came in. -/
theorem open_int {b : Nat} {v : Value} (hval : Value.okWide Tryz.prog W .any b 3 v) {d : DataW H} {p : List MemPlace} {held : Bool} (hd : DataW.Trod enc Tryz.prog W 0 (fun _ => true) held 3 v d p) : ∃ n : Int, PRel W (G0 W).I (.int .i64 n) v ∧ -9223372036854775808 ≤ n ∧ n < 9223372036854775808 := by
  obtain ⟨sv, h1, h2⟩ := read_arg laidOut lt3 frag3 (one3 hval) hd
  obtain ⟨n, -, hv, hw⟩ := rd_int Tryz.underlying3 h1
  cases hv
  simp [Lit.wf, IntKind.min, IntKind.max, IntKind.signed, IntKind.bits] at hw
  exact ⟨n, h2, by omega, by omega⟩
end

theorem contract (H : Type) (enc : TypeId × Value → H) (W : World) (base : Nat) (args : Array Value) (ds gs : List (DataW H)) (before : List MemPlace)
    (hval : ∀ (j : Nat) t v, Tryz.f3.params[j]? = some t → args[j]? = some v → Value.okWide Tryz.prog W .any base t v)
    (hW : DataW.Whole enc Tryz.prog Tryz.f3.params.toList Rows.cellsNumbersSpec.vars false W args.toList ds gs before)
    (hsz : (DataW.weightsEach Tryz.prog (Tryz.f3.params.toList ++ (OpenSpec.ofChange Rows.cellsNumbersSpec).bare.plain.varTypes Tryz.prog) (ds ++ gs)).all (· ≤ reachBytes) = true)
    (hL : laidMetH Tryz.prog Rows.cellsNumbersRow.laid W) :
    Calls Tryz.prog 3 args W fun e W' => ∃ v, e = .returned v ∧ Rows.cellsNumbersSpec.post enc Tryz.prog Tryz.f3 false true false false W args v W' := by
  have hW' := hW
  obtain ⟨p, q, hA, hV, hbe, hfz, hnd⟩ := hW
  have hvt : (OpenSpec.ofChange Rows.cellsNumbersSpec).bare.plain.varTypes Tryz.prog = [] := by kernel_rfl
  rw [hvt, List.append_nil] at hsz
  obtain ⟨hgs, rfl⟩ := trodVars_none hV
  subst hgs
  rw [List.append_nil] at hsz
  rw [Tryz.params3] at hA hval hsz
  obtain ⟨v0, vs0, d0, ds0, p0, q0, hargs, rfl, rfl, h0, r0⟩ := trodAll_cons hA
  obtain ⟨v1, vs1, d1, ds1, p1, q1, rfl, rfl, rfl, h1, r1⟩ := trodAll_cons r0
  obtain ⟨v2, vs2, d2, ds2, p2, q2, rfl, rfl, rfl, h2, r2⟩ := trodAll_cons r1
  obtain ⟨v3, vs3, d3, ds3, p3, q3, rfl, rfl, rfl, h3, r3⟩ := trodAll_cons r2
  obtain ⟨v4, vs4, d4, ds4, p4, q4, rfl, rfl, rfl, h4, r4⟩ := trodAll_cons r3
  obtain ⟨rfl, rfl, rfl⟩ := trodAll_nil r4
  obtain rfl : args = #[v0, v1, v2, v3, v4] := by cases args; simp_all
  obtain ⟨sv, l0, a0, b0⟩ := open_sizes (hval 0 22 v0 rfl rfl) h0 (near_of hsz (j := 0) rfl rfl)
  obtain ⟨tv, l1, a1, b1⟩ := open_tables (hval 1 23 v1 rfl rfl) h1 (near_of hsz (j := 1) rfl rfl)
  obtain ⟨n2, a2, -, -⟩ := open_int (hval 2 3 v2 rfl rfl) h2
  obtain ⟨uv, l3, a3, b3⟩ := open_sizes (hval 3 22 v3 rfl rfl) h3 (near_of hsz (j := 3) rfl rfl)
  obtain ⟨n4, a4, b4, c4⟩ := open_int (hval 4 3 v4 rfl rfl) h4
  have hx := cellsNumbers_s (table := n2) (cell := n4) b0 b1 b3 c4 b4
  have hL' : laidMetH Tryz.prog Rows.cellsTuplesRow.laid W := hL
  refine (tuples.walk hL' (i := 3) (f := F3) rfl (vs := [sv, tv, .int .i64 n2, uv, .int .i64 n4]) (xs := [v0, v1, v2, v3, v4]) (.cons _ _ _ _ a0 (.cons _ _ _ _ a1 (.cons _ _ _ _ a2 (.cons _ _ _ _ a3 (.cons _ _ _ _ a4 .nil))))) hx).mono fun e W' hp => ?_
  obtain ⟨rfl, G', H', hR, ho, hpt⟩ := hp
  refine ⟨_, rfl, tuples.post_true hW' rfl (fun t ht => ?_) (by kernel_rfl) rfl (fun _ => rfl) rfl hR ho hpt⟩
  rw [Tryz.params3] at ht
  have : t = 22 ∨ t = 23 ∨ t = 3 ∨ t = 22 ∨ t = 3 := by simpa using ht
  rcases this with rfl | rfl | rfl | rfl | rfl
  · exact lt22
  · exact lt23
  · exact lt3
  · exact lt22
  · exact lt3

theorem laid_met (os : Os) : laidMet Tryz.prog Rows.cellsNumbersRow.laid ((laidWorld os).forCall (fun _ _ => 0) ⟨#[], #[.slice none 0 0, .slice none 0 0, .int .i64 0, .slice none 0 0, .int .i64 0], []⟩).memory :=
  laidMet_of_run3 12 (by kernel_rfl) (by kernel_rfl) (by kernel_rfl)
theorem laid_metH (os : Os) : laidMetH Tryz.prog Rows.cellsNumbersRow.laid ((laidWorld os).forCall (fun _ _ => 0) ⟨#[], #[.slice none 0 0, .slice none 0 0, .int .i64 0, .slice none 0 0, .int .i64 0], []⟩).memory := by
  have hf : (Rows.cellsNumbersRow.laid.filter fun x => x.2.handleName?.isSome) = [] := by kernel_rfl
  unfold laidMetH
  rw [hf]; exact laid_met os
theorem reads (os : Os) {H : Type} (enc : TypeId × Value → H) : ∃ places, DataW.whole enc Tryz.prog ((laidWorld os).forCall (fun _ _ => 0) ⟨#[], #[.slice none 0 0, .slice none 0 0, .int .i64 0, .slice none 0 0, .int .i64 0], []⟩).memory Tryz.f3.params.toList Rows.cellsNumbersSpec.vars false #[Value.slice none 0 0, .slice none 0 0, .int .i64 0, .slice none 0 0, .int .i64 0].toList 8 = some ([.nil, .nil, .lit (.int .i64 0), .nil, .lit (.int .i64 0)], [], places) :=
  ⟨[], by kernel_rfl⟩

theorem lifted (os : Os) (started : os.Started) (H : Type) (enc : TypeId × Value → H) (F : Stop.Interp) :
    ReturnsInHanded {} Tryz.checked os 3 .any ((OpenSpec.ofChange Rows.cellsNumbersSpec).preRow enc Tryz.prog Tryz.f3 Rows.cellsNumbersRow.domain false Rows.cellsNumbersRow.laid) (((OpenSpec.ofChange Rows.cellsNumbersSpec).at F).post enc Tryz.prog Tryz.f3 false true false false) := by
  obtain ⟨places, hx⟩ := reads os enc
  refine returnsInHanded_of_row (C := Tryz.checked) (s := OpenSpec.ofChange Rows.cellsNumbersSpec) own started (by kernel_rfl) Tryz.func3
    (witness_row_atRef (enc := enc) (C := Tryz.checked) false (laidWorld os) #[.slice none 0 0, .slice none 0 0, .int .i64 0, .slice none 0 0, .int .i64 0] rfl (by kernel_rfl) (by kernel_rfl) (by kernel_rfl)
      (OpenSpec.preRow_of_cond 8 hx (by kernel_rfl) (fun k hk => by cases hk) (by kernel_rfl) (laid_metH os))) ?_
  intro W base args ds gs before hval hW _ _ hsz hL _ _
  exact contract H enc W base args ds gs before hval hW hsz hL

theorem said : Rows.CellsNumbersSaid :=
  OpenClaim.holds_of_cond 3 Tryz.f3 rfl rfl rfl rfl rfl rfl rfl ⟨rfl, rfl, rfl, rfl, rfl⟩ rfl rfl rfl rfl rfl (by kernel_rfl) Tryz.func3 (by kernel_rfl)
    (of_decide_eq_true (by kernel_rfl)) (by unfold Func.isWrapper; first | (rw [if_pos (by decide +kernel)]; kernel_rfl) | (rw [if_neg (by decide +kernel)]; exact ⟨rfl, rfl⟩))
    (fun os started H enc _ F => by rw [OpenClaim.pre_eq_preRow]; exact lifted os started H enc F)

theorem plain (f : FuncId) (fn : Func) (hf : Tryz.pinned.checked.prog.funcNamed Rows.cellsNumbersRow.func = some f) (hfn : Tryz.pinned.checked.prog.funcs[f]? = some fn) :
    true = Tryz.pinned.checked.prog.looks [] ∧ ∀ (j : Nat) t, fn.params[j]? = some t → Tryz.pinned.checked.prog.wantsStandIn t = false := by
  obtain rfl : f = 3 := Option.some.inj ((show Tryz.prog.funcNamed Rows.cellsNumbersRow.func = some 3 by kernel_rfl).symm.trans hf) |>.symm
  obtain rfl : fn = Tryz.f3 := (Option.some.inj (Tryz.func3.symm.trans hfn)).symm
  refine ⟨by kernel_rfl, fun j t ht => ?_⟩
  rw [Tryz.params3] at ht
  have : t = 22 ∨ t = 23 ∨ t = 3 := by have h := Array.mem_of_getElem? ht; simp at h; rcases h with h | h | h | h | h <;> simp [h]
  rcases this with rfl | rfl | rfl
  · exact (show Tryz.prog.wantsStandIn 22 = false by kernel_rfl)
  · exact (show Tryz.prog.wantsStandIn 23 = false by kernel_rfl)
  · exact (show Tryz.prog.wantsStandIn 3 = false by kernel_rfl)

theorem card : Rows.CellsNumbersCardSaid :=
  Claim7.holds_tied_plain_at .later [] _ _ _ _ said (fun _ h => by cases h) (by kernel_rfl) (fun _ h => by cases h) cellsNumbers_row_tie rfl ⟨rfl, rfl⟩ (by kernel_rfl) rfl plain (by kernel_rfl)
end Go.Proofs.YteiajndkjnlmiaaGreatDoor.numbers
