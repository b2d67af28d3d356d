/- ConstraintCycles answers true at every input, and leaves its arguments as they were: the card. -/
import Derived.Test.YtklgjajhccjbjaaGreatDoorP11
import Derived.Test.YtklgjajhccjbjaaGreatDoorP15
set_option linter.unusedVariables false
set_option linter.unusedSimpArgs false
namespace Go.Proofs.YtklgjajhccjbjaaGreatDoor.cycles
open Go Go.Abs Go.Abs.T12 Go.Proofs Go.ChangeShapes Go.WideShapes Go.ChangeAt Go.RowKit
set_option maxRecDepth 100000

theorem contract (H : Type) (enc : TypeId × Value → H) (W : World) (base : Nat) (args : Array Value) (ds gs : List (DataW H)) (before : List MemPlace)
    (hval : ∀ (j : Nat) t v, Tryz.f4.params[j]? = some t → args[j]? = some v → Value.okWide Tryz.prog W .any base t v)
    (hW : DataW.Whole enc Tryz.prog Tryz.f4.params.toList Rows.constraintCyclesSpec.vars false W args.toList ds gs before)
    (hsz : (DataW.weightsEach Tryz.prog (Tryz.f4.params.toList ++ (OpenSpec.ofChange Rows.constraintCyclesSpec).bare.plain.varTypes Tryz.prog) (ds ++ gs)).all (· ≤ reachBytes) = true)
    (hL : laidMetH Tryz.prog Rows.constraintCyclesRow.laid W) :
    Calls Tryz.prog 4 args W fun e W' => ∃ v, e = .returned v ∧ Rows.constraintCyclesSpec.post enc Tryz.prog Tryz.f4 false true false false W args v W' := by
  have hW' := hW
  obtain ⟨p, q, hA, hV, hbe, hfz, hnd⟩ := hW
  have hvt : (OpenSpec.ofChange Rows.constraintCyclesSpec).bare.plain.varTypes Tryz.prog = [] := by kernel_rfl
  rw [hvt, List.append_nil] at hsz
  obtain ⟨hgs, rfl⟩ := trodVars_none hV
  subst hgs
  rw [List.append_nil] at hsz
  rw [Tryz.params4] at hA hval hsz
  obtain ⟨v0, vs0, d0, ds0, p0, q0, hargs, rfl, rfl, h0, r0⟩ := trodAll_cons hA
  obtain ⟨v1, vs1, d1, ds1, p1, q1, rfl, rfl, rfl, h1, r1⟩ := trodAll_cons r0
  obtain ⟨v2, vs2, d2, ds2, p2, q2, rfl, rfl, rfl, h2, r2⟩ := trodAll_cons r1
  obtain ⟨v3, vs3, d3, ds3, p3, q3, rfl, rfl, rfl, h3, r3⟩ := trodAll_cons r2
  obtain ⟨rfl, rfl, rfl⟩ := trodAll_nil r3
  obtain rfl : args = #[v0, v1, v2, v3] := by cases args; simp_all
  obtain ⟨n0, a0, b0⟩ := open_byte (hval 0 5 v0 rfl rfl) h0
  obtain ⟨sv, l, a1, b1⟩ := open_bits (hval 1 34 v1 rfl rfl) h1 (near_of hsz (j := 1) rfl rfl)
  obtain ⟨n2, a2, b2⟩ := open_byte (hval 2 5 v2 rfl rfl) h2
  obtain ⟨n3, a3, b3⟩ := open_byte (hval 3 5 v3 rfl rfl) h3
  have hx := cycles_all (z := n0) (a := n2) (b := n3) b0 b2 b3 b1
  have hL' : laidMetH Tryz.prog Rows.constraintCyclesRow.laid W := hL
  refine (walk tabE_ok hL' (i := 4) (f := F4) (by rw [tabE_o (by decide) (by decide) (by decide) (by decide) (by decide)]; rfl) (vs := [.int .u8 (n0 : Int), sv, .int .u8 (n2 : Int), .int .u8 (n3 : Int)]) (xs := [v0, v1, v2, v3]) (.cons _ _ _ _ a0 (.cons _ _ _ _ a1 (.cons _ _ _ _ a2 (.cons _ _ _ _ a3 .nil)))) hx).mono fun e W' hp => ?_
  obtain ⟨rfl, G', H', hR, ho, hpt⟩ := hp
  refine ⟨_, rfl, post_true hW' rfl (fun t ht => ?_) (by kernel_rfl) rfl (fun _ => rfl) rfl hR ho hpt⟩
  rw [Tryz.params4] at ht
  have : t ∈ [5, 34, 5, 5] := by simpa using ht
  exact of_decide_eq_true (List.all_eq_true.1 (show [5, 34, 5, 5].all (fun t => decide (t < Tryz.prog.types.size)) = true by kernel_rfl) t this)

theorem laid_met (os : Os) : laidMet Tryz.prog Rows.constraintCyclesRow.laid ((laidWorld os).forCall (fun _ _ => 0) ⟨#[], #[.int .u8 0, .slice none 0 0, .int .u8 0, .int .u8 0], []⟩).memory :=
  laidMet_of_run3 12 (by kernel_rfl) (by kernel_rfl) (by kernel_rfl)
theorem laid_metH (os : Os) : laidMetH Tryz.prog Rows.constraintCyclesRow.laid ((laidWorld os).forCall (fun _ _ => 0) ⟨#[], #[.int .u8 0, .slice none 0 0, .int .u8 0, .int .u8 0], []⟩).memory := by
  have hf : (Rows.constraintCyclesRow.laid.filter fun x => x.2.handleName?.isSome) = [] := by kernel_rfl
  unfold laidMetH
  rw [hf]; exact laid_met os
theorem reads (os : Os) {H : Type} (enc : TypeId × Value → H) : ∃ places, DataW.whole enc Tryz.prog ((laidWorld os).forCall (fun _ _ => 0) ⟨#[], #[.int .u8 0, .slice none 0 0, .int .u8 0, .int .u8 0], []⟩).memory Tryz.f4.params.toList Rows.constraintCyclesSpec.vars false #[Value.int .u8 0, .slice none 0 0, .int .u8 0, .int .u8 0].toList 8 = some ([.lit (.int .u8 0), .nil, .lit (.int .u8 0), .lit (.int .u8 0)], [], places) :=
  ⟨[], by kernel_rfl⟩

theorem lifted (os : Os) (started : os.Started) (H : Type) (enc : TypeId × Value → H) (F : Stop.Interp) :
    ReturnsInHanded {} Tryz.checked os 4 .any ((OpenSpec.ofChange Rows.constraintCyclesSpec).preRow enc Tryz.prog Tryz.f4 Rows.constraintCyclesRow.domain false Rows.constraintCyclesRow.laid) (((OpenSpec.ofChange Rows.constraintCyclesSpec).at F).post enc Tryz.prog Tryz.f4 false true false false) := by
  obtain ⟨places, hx⟩ := reads os enc
  refine returnsInHanded_of_row (C := Tryz.checked) (s := OpenSpec.ofChange Rows.constraintCyclesSpec) own started (by kernel_rfl) Tryz.func4
    (witness_row_atRef (enc := enc) (C := Tryz.checked) false (laidWorld os) #[.int .u8 0, .slice none 0 0, .int .u8 0, .int .u8 0] rfl (by kernel_rfl) (by kernel_rfl) (by kernel_rfl)
      (OpenSpec.preRow_of_cond 8 hx (by kernel_rfl) (fun k hk => by cases hk) (by kernel_rfl) (laid_metH os))) ?_
  intro W base args ds gs before hval hW _ _ hsz hL _ _
  exact contract H enc W base args ds gs before hval hW hsz hL
end Go.Proofs.YtklgjajhccjbjaaGreatDoor.cycles
