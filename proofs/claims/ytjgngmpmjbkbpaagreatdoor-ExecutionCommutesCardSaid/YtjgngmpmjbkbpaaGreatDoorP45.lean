/- Texts of this claim, joined and written short by a program. -/
import Derived.Test.YtjgngmpmjbkbpaaGreatDoorP42
import Derived.Test.YtjgngmpmjbkbpaaGreatDoorP43
import Derived.Test.YtjgngmpmjbkbpaaGreatDoorP44
import Derived.Test.YtjgngmpmjbkbpaaGreatDoorP00
set_option linter.unusedVariables false
set_option linter.unusedSimpArgs false
set_option linter.unusedSectionVars false
namespace Go.Proofs.YtjgngmpmjbkbpaaGreatDoor.commuting
open Go Go.Abs Go.Abs.U Go.Proofs Go.ChangeShapes Go.WideShapes Go.ChangeAt Go.RowKit
set_option maxRecDepth 100000
theorem contract (H : Type) (enc : TypeId × Value -> H) (W : World) (base : Nat) (args : Array Value) (ds gs : List (DataW H)) (before : List MemPlace)
  (hval : ∀ (j : Nat) t v, Tryz.f3.params[j]? = some t -> args[j]? = some v -> Value.okWide Tryz.prog W .any base t v)
  (hW : DataW.Whole enc Tryz.prog Tryz.f3.params.toList Rows.executionCommutesSpec.vars false W args.toList ds gs before)
  (dP : (DataW.weightsEach Tryz.prog (Tryz.f3.params.toList ++ (OpenSpec.ofChange Rows.executionCommutesSpec).bare.plain.varTypes Tryz.prog) (ds ++ gs)).all (· <= reachBytes) = true)
  (dT : laidMetH Tryz.prog Rows.executionCommutesRow.laid W) :
  Calls Tryz.prog 3 args W fun e W' => ∃ v, e = .returned v /\ Rows.executionCommutesSpec.post enc Tryz.prog Tryz.f3 false true false false W args v W' := by
 have hW' := hW
 obtain ⟨p, q, hA, hV, asG, hfz, hnd⟩ := hW
 have aqB : (OpenSpec.ofChange Rows.executionCommutesSpec).bare.plain.varTypes Tryz.prog = [] := by kernel_rfl
 rw [aqB, vh] at dP
 obtain ⟨xh, rfl⟩ := trodVars_none hV
 subst xh
 rw [vh] at dP
 rw [Tryz.params3] at hA hval dP
 obtain ⟨v0, asH, d0, asI, p0, fx, vG, rfl, rfl, h0, aqC⟩ := trodAll_cons hA
 obtain ⟨v1, awf, d1, awg, p1, q1, rfl, rfl, rfl, h1, bG⟩ := trodAll_cons aqC
 obtain ⟨v2, aq0, d2, PR, p2, aS, rfl, rfl, rfl, h2, ch⟩ := trodAll_cons bG
 obtain ⟨v3, aFr, d3, aFs, p3, bZ, rfl, rfl, rfl, av, eL⟩ := trodAll_cons ch
 obtain ⟨rfl, rfl, rfl⟩ := trodAll_nil eL
 obtain rfl : args = #[v0, v1, v2, v3] := by cases args; simp_all
 obtain ⟨m, a0⟩ := apa (hval 0 30 v0 rfl rfl) h0
 obtain ⟨a, ao, al⟩ := aue (hval 1 5 v1 rfl rfl) h1
 obtain ⟨c, hc, a2⟩ := aue (hval 2 5 v2 rfl rfl) h2
 obtain ⟨st, cp, a3⟩ := aD3 (hval 3 22 v3 rfl rfl) av (aDY dP (j := 3) rfl rfl)
 have hx := aFp (g := fun b => W.heap[b]?) m a c st ao hc cp
 have j6 : laidMetH Tryz.prog Rows.executionCommutesRow.laid W := dT
 refine (commutes.walk aot j6 (i := 3) (aFo (g := fun b => W.heap[b]?)) (vs := [uF m, .int .u8 a, .int .u8 c, bP 1 aI st]) (xs := [v0, v1, v2, v3]) (.cons _ _ _ _ a0 (.cons _ _ _ _ al (.cons _ _ _ _ a2 (.cons _ _ _ _ a3 .nil)))) hx).mono fun e W' hp => ?_
 obtain ⟨rfl, G', H', aa, ho, aqD⟩ := hp
 refine ⟨_, rfl, commutes.apb hW' rfl (fun t ht => ?_) (by kernel_rfl) rfl (fun _ => rfl) rfl aa ho aqD⟩
 rw [Tryz.params3] at ht
 have : t ∈ [30, 5, 5, 22] := by simpa using ht
 exact of_decide_eq_true (fo.1 (show [30, 5, 5, 22].all (fun t => decide (t < Tryz.prog.types.size)) = true by kernel_rfl) t this)
theorem aqE (os : Os) : laidMet Tryz.prog Rows.executionCommutesRow.laid ((JC os).forCall (fun _ _ => 0) ⟨#[], #[.agg #[.slice none 0 0, .slice none 0 0, .slice none 0 0, .slice none 0 0, .slice none 0 0, .slice none 0 0, .slice none 0 0], .int .u8 0, .int .u8 0, .slice none 0 0], []⟩).memory :=
 laidMet_of_run3 12 (by kernel_rfl) (by kernel_rfl) (by kernel_rfl)
theorem aqF (os : Os) : laidMetH Tryz.prog Rows.executionCommutesRow.laid ((JC os).forCall (fun _ _ => 0) ⟨#[], #[.agg #[.slice none 0 0, .slice none 0 0, .slice none 0 0, .slice none 0 0, .slice none 0 0, .slice none 0 0, .slice none 0 0], .int .u8 0, .int .u8 0, .slice none 0 0], []⟩).memory := by
 have ae : (Rows.executionCommutesRow.laid.filter fun x => x.2.handleName?.isSome) = [] := by kernel_rfl
 unfold laidMetH
 rw [ae]; exact aqE os
theorem reads (os : Os) {H : Type} (enc : TypeId × Value -> H) : ∃ places, DataW.whole enc Tryz.prog ((JC os).forCall (fun _ _ => 0) ⟨#[], #[.agg #[.slice none 0 0, .slice none 0 0, .slice none 0 0, .slice none 0 0, .slice none 0 0, .slice none 0 0, .slice none 0 0], .int .u8 0, .int .u8 0, .slice none 0 0], []⟩).memory Tryz.f3.params.toList Rows.executionCommutesSpec.vars false #[Value.agg #[.slice none 0 0, .slice none 0 0, .slice none 0 0, .slice none 0 0, .slice none 0 0, .slice none 0 0, .slice none 0 0], .int .u8 0, .int .u8 0, .slice none 0 0].toList 8 = some ([.agg [.nil, .nil, .nil, .nil, .nil, .nil, .nil], .lit (.int .u8 0), .lit (.int .u8 0), .nil], [], places) :=
 ⟨[], by kernel_rfl⟩
theorem lifted (os : Os) (started : os.Started) (H : Type) (enc : TypeId × Value -> H) (F : Stop.Interp) :
  ReturnsInHanded {} Tryz.checked os 3 .any ((OpenSpec.ofChange Rows.executionCommutesSpec).preRow enc Tryz.prog Tryz.f3 Rows.executionCommutesRow.domain false Rows.executionCommutesRow.laid) (((OpenSpec.ofChange Rows.executionCommutesSpec).at F).post enc Tryz.prog Tryz.f3 false true false false) := by
 obtain ⟨places, hx⟩ := reads os enc
 refine returnsInHanded_of_row (C := Tryz.checked) (s := OpenSpec.ofChange Rows.executionCommutesSpec) own started (by kernel_rfl) Tryz.func3
  (witness_row_atRef (enc := enc) (C := Tryz.checked) false (JC os) #[.agg #[.slice none 0 0, .slice none 0 0, .slice none 0 0, .slice none 0 0, .slice none 0 0, .slice none 0 0, .slice none 0 0], .int .u8 0, .int .u8 0, .slice none 0 0] rfl (by kernel_rfl) (by kernel_rfl) (by kernel_rfl)
    (OpenSpec.preRow_of_cond 8 hx (by kernel_rfl) (fun k ai => by cases ai) (by kernel_rfl) (aqF os))) ?_
 intro W base args ds gs before hval hW _ _ dP dT _ _
 exact contract H enc W base args ds gs before hval hW dP dT
end Go.Proofs.YtjgngmpmjbkbpaaGreatDoor.commuting
