/- ConstraintHolds answers true at every input, and leaves its arguments as they were: the card. -/
import Derived.Test.YtklgjajhccjbjaaGreatDoorP19
set_option linter.unusedVariables false
set_option linter.unusedSimpArgs false
namespace Go.Proofs.YtklgjajhccjbjaaGreatDoor.holding
open Go Go.Abs Go.Abs.T12 Go.Proofs Go.ChangeShapes Go.WideShapes Go.ChangeAt Go.RowKit
set_option maxRecDepth 100000

theorem contract (H : Type) (enc : TypeId × Value → H) (W : World) (base : Nat) (args : Array Value) (ds gs : List (DataW H)) (before : List MemPlace)
    (hval : ∀ (j : Nat) t v, Tryz.f3.params[j]? = some t → args[j]? = some v → Value.okWide Tryz.prog W .any base t v)
    (hW : DataW.Whole enc Tryz.prog Tryz.f3.params.toList Rows.constraintHoldsSpec.vars false W args.toList ds gs before)
    (hsz : (DataW.weightsEach Tryz.prog (Tryz.f3.params.toList ++ (OpenSpec.ofChange Rows.constraintHoldsSpec).bare.plain.varTypes Tryz.prog) (ds ++ gs)).all (· ≤ reachBytes) = true)
    (hL : laidMetH Tryz.prog Rows.constraintHoldsRow.laid W) :
    Calls Tryz.prog 3 args W fun e W' => ∃ v, e = .returned v ∧ Rows.constraintHoldsSpec.post enc Tryz.prog Tryz.f3 false true false false W args v W' := by
  have hW' := hW
  obtain ⟨p, q, hA, hV, hbe, hfz, hnd⟩ := hW
  have hvt : (OpenSpec.ofChange Rows.constraintHoldsSpec).bare.plain.varTypes Tryz.prog = [] := by kernel_rfl
  rw [hvt, List.append_nil] at hsz
  obtain ⟨hgs, rfl⟩ := trodVars_none hV
  subst hgs
  rw [List.append_nil] at hsz
  rw [Tryz.params3] at hA hval hsz
  obtain ⟨v0, vs0, d0, ds0, p0, q0, hargs, rfl, rfl, h0, r0⟩ := trodAll_cons hA
  obtain ⟨v1, vs1, d1, ds1, p1, q1, rfl, rfl, rfl, h1, r1⟩ := trodAll_cons r0
  obtain ⟨rfl, rfl, rfl⟩ := trodAll_nil r1
  obtain rfl : args = #[v0, v1] := by cases args; simp_all
  obtain ⟨k, fam, bd, fi, si, tv, tl, a0, htl⟩ := open_con (hval 0 26 v0 rfl rfl) h0 (near_of hsz (j := 0) rfl rfl)
  obtain ⟨sv, vl, a1, hvl⟩ := open_vals (hval 1 27 v1 rfl rfl) h1 (near_of hsz (j := 1) rfl rfl)
  have hx := holds_all (k := k) (fam := fam) (b := bd) (f := fi) (s := si) htl hvl
  have hL' : laidMetH Tryz.prog Rows.constraintCyclesRow.laid W := hL
  refine (cycles.walk h6T_ok hL' (i := 3) (f := F3) (h6_v.h3) (vs := [.agg (con k fam tv bd fi si), sv]) (xs := [v0, v1]) (.cons _ _ _ _ a0 (.cons _ _ _ _ a1 .nil)) hx).mono fun e W' hp => ?_
  obtain ⟨rfl, G', H', hR, ho, hpt⟩ := hp
  refine ⟨_, rfl, cycles.post_true hW' rfl (fun t ht => ?_) (by kernel_rfl) rfl (fun _ => rfl) rfl hR ho hpt⟩
  rw [Tryz.params3] at ht
  have : t ∈ [26, 27] := by simpa using ht
  exact of_decide_eq_true (List.all_eq_true.1 (show [26, 27].all (fun t => decide (t < Tryz.prog.types.size)) = true by kernel_rfl) t this)

theorem laid_met (os : Os) : laidMet Tryz.prog Rows.constraintHoldsRow.laid ((laidWorld os).forCall (fun _ _ => 0) ⟨#[], #[.agg #[.int .i64 0, .int .i64 0, .slice none 0 0, .int .i64 0, .int .i64 0, .int .i64 0], .slice none 0 0], []⟩).memory :=
  laidMet_of_run3 12 (by kernel_rfl) (by kernel_rfl) (by kernel_rfl)
theorem laid_metH (os : Os) : laidMetH Tryz.prog Rows.constraintHoldsRow.laid ((laidWorld os).forCall (fun _ _ => 0) ⟨#[], #[.agg #[.int .i64 0, .int .i64 0, .slice none 0 0, .int .i64 0, .int .i64 0, .int .i64 0], .slice none 0 0], []⟩).memory := by
  have hf : (Rows.constraintHoldsRow.laid.filter fun x => x.2.handleName?.isSome) = [] := by kernel_rfl
  unfold laidMetH
  rw [hf]; exact laid_met os
theorem reads (os : Os) {H : Type} (enc : TypeId × Value → H) : ∃ places, DataW.whole enc Tryz.prog ((laidWorld os).forCall (fun _ _ => 0) ⟨#[], #[.agg #[.int .i64 0, .int .i64 0, .slice none 0 0, .int .i64 0, .int .i64 0, .int .i64 0], .slice none 0 0], []⟩).memory Tryz.f3.params.toList Rows.constraintHoldsSpec.vars false #[Value.agg #[.int .i64 0, .int .i64 0, .slice none 0 0, .int .i64 0, .int .i64 0, .int .i64 0], .slice none 0 0].toList 8 = some ([.agg [.lit (.int .i64 0), .lit (.int .i64 0), .agg [.nil, .lit (.int .i64 0)], .lit (.int .i64 0), .lit (.int .i64 0)], .nil], [], places) :=
  ⟨[], by kernel_rfl⟩

theorem lifted (os : Os) (started : os.Started) (H : Type) (enc : TypeId × Value → H) (F : Stop.Interp) :
    ReturnsInHanded {} Tryz.checked os 3 .any ((OpenSpec.ofChange Rows.constraintHoldsSpec).preRow enc Tryz.prog Tryz.f3 Rows.constraintHoldsRow.domain false Rows.constraintHoldsRow.laid) (((OpenSpec.ofChange Rows.constraintHoldsSpec).at F).post enc Tryz.prog Tryz.f3 false true false false) := by
  obtain ⟨places, hx⟩ := reads os enc
  refine returnsInHanded_of_row (C := Tryz.checked) (s := OpenSpec.ofChange Rows.constraintHoldsSpec) own started (by kernel_rfl) Tryz.func3
    (witness_row_atRef (enc := enc) (C := Tryz.checked) false (laidWorld os) #[.agg #[.int .i64 0, .int .i64 0, .slice none 0 0, .int .i64 0, .int .i64 0, .int .i64 0], .slice none 0 0] rfl (by kernel_rfl) (by kernel_rfl) (by kernel_rfl)
      (OpenSpec.preRow_of_cond 8 hx (by kernel_rfl) (fun k hk => by cases hk) (by kernel_rfl) (laid_metH os))) ?_
  intro W base args ds gs before hval hW _ _ hsz hL _ _
  exact contract H enc W base args ds gs before hval hW hsz hL
end Go.Proofs.YtklgjajhccjbjaaGreatDoor.holding
