/- CellsLayouts answers true at every input, and leaves its arguments as they were: the card. -/
import Derived.Test.YteiajndkjnlmiaaGreatDoorP07
import Derived.Test.YteiajndkjnlmiaaGreatDoorP11
set_option linter.unusedVariables false
set_option linter.unusedSimpArgs false
namespace Go.Proofs.YteiajndkjnlmiaaGreatDoor.layouts
open Go Go.Abs Go.Abs.T09 Go.Proofs Go.ChangeShapes Go.WideShapes Go.ChangeAt Go.RowKit
set_option maxRecDepth 100000

/-- What the sizes of a call say of one argument. -/
theorem near_of {H : Type} {ts : List TypeId} {ds : List (DataW H)} (h : (DataW.weightsEach Tryz.prog ts ds).all (· ≤ reachBytes) = true) {j : Nat} {t : TypeId} {d : DataW H} (ht : ts[j]? = some t) (hd : ds[j]? = some d) : Near Tryz.prog t d := fun n hn => by
  have := List.all_eq_true.1 h n (DataW.weights_mem_each ht hd n hn)
  simpa using this

section
variable {W : World} {H : Type} {enc : TypeId × Value → H}
theorem frag49 : frag Tryz.prog 8 49 = true := by kernel_rfl
theorem lt49 : 49 < Tryz.prog.types.size := of_decide_eq_true (by kernel_rfl)
theorem bytes59 : 1 ≤ Tryz.prog.bytesOf 59 := of_decide_eq_true (by kernel_rfl)
theorem cells59 : Tryz.prog.cellsOf 59 = 2 := by kernel_rfl

theorem rd_so {l : List V} {d : DataW H} (h : RD Tryz.prog 59 d l) : ∃ s : So, l = s.cells := by
  obtain ⟨parts, ls, rfl, rfl, hp, hl, hr⟩ := rd_struct Tryz.underlying59 h
  obtain ⟨p0, p1, rfl⟩ := list2 hp
  obtain ⟨l0, l1, rfl⟩ := list2 hl
  obtain ⟨s, rfl, rfl⟩ := rd_str Tryz.underlying9 (hr 0 _ _ _ rfl rfl rfl)
  obtain ⟨k, rfl, rfl, -⟩ := rd_int Tryz.underlying3 (hr 1 _ _ _ rfl rfl rfl)
  exact ⟨⟨s, k⟩, rfl⟩

theorem rd_vs {tv : V} {d : DataW H} (hn : Near Tryz.prog 49 d) (h : RD Tryz.prog 49 d [tv]) : ∃ ts, VS tv ts := by
  rcases rd_slice Tryz.underlying49 h with ⟨rfl, hv⟩ | ⟨elems, spare, ls, rfl, hv, hl, hr⟩
  · cases hv; exact ⟨[], rfl, rfl, by decide⟩
  · cases hv
    have hlen := near_len Tryz.underlying49 bytes59 hn
    rw [cells59]
    have hall : ∀ l ∈ ls, ∃ s : So, l = s.cells := fun l hlm => by
      obtain ⟨i, hi⟩ := List.getElem?_of_mem hlm
      have hil : i < ls.length := by
        rcases Nat.lt_or_ge i ls.length with q | q
        · exact q
        · rw [List.getElem?_eq_none q] at hi; cases hi
      obtain ⟨d, hd⟩ : ∃ d, elems[i]? = some d := ⟨_, List.getElem?_eq_getElem (by omega)⟩
      exact rd_so (hr i d l hd hi)
    have : ∃ ss : List So, ls.map mkV = ss.map So.v ∧ ss.length = ls.length := by
      clear hl hr hn h
      induction ls with
      | nil => exact ⟨[], rfl, rfl⟩
      | cons l ls ih =>
        obtain ⟨s, rfl⟩ := hall l (by simp)
        obtain ⟨ss, h1, h2⟩ := ih (fun m hm => hall m (by simp [hm]))
        exact ⟨s :: ss, by simp [h1]; rfl, by simp [h2]⟩
    obtain ⟨ss, h1, h2⟩ := this
    exact ⟨ss, rfl, h1, by omega⟩

/-- The sorts that came in. -/
theorem open_sorts {b : Nat} {v : Value} (hval : Value.okWide Tryz.prog W .any b 49 v) {d : DataW H} {p : List MemPlace} {held : Bool} (hd : DataW.Trod enc Tryz.prog W 0 (fun _ => true) held 49 v d p) (hn : Near Tryz.prog 49 d) : ∃ sv l, PRel W (G0 W).I sv v ∧ VS sv l := by
  obtain ⟨sv, h1, h2⟩ := read_arg laidOut lt49 frag49 (not_agg Tryz.underlying49 hval) hd
  obtain ⟨l, hl⟩ := rd_vs hn h1
  exact ⟨sv, l, h2, hl⟩
end

theorem contract (H : Type) (enc : TypeId × Value → H) (W : World) (base : Nat) (args : Array Value) (ds gs : List (DataW H)) (before : List MemPlace)
    (hval : ∀ (j : Nat) t v, Tryz.f6.params[j]? = some t → args[j]? = some v → Value.okWide Tryz.prog W .any base t v)
    (hW : DataW.Whole enc Tryz.prog Tryz.f6.params.toList Rows.cellsLayoutsSpec.vars false W args.toList ds gs before)
    (hsz : (DataW.weightsEach Tryz.prog (Tryz.f6.params.toList ++ (OpenSpec.ofChange Rows.cellsLayoutsSpec).bare.plain.varTypes Tryz.prog) (ds ++ gs)).all (· ≤ reachBytes) = true)
    (hL : laidMetH Tryz.prog Rows.cellsLayoutsRow.laid W) :
    Calls Tryz.prog 6 args W fun e W' => ∃ v, e = .returned v ∧ Rows.cellsLayoutsSpec.post enc Tryz.prog Tryz.f6 false true false false W args v W' := by
  have hW' := hW
  obtain ⟨p, q, hA, hV, hbe, hfz, hnd⟩ := hW
  have hvt : (OpenSpec.ofChange Rows.cellsLayoutsSpec).bare.plain.varTypes Tryz.prog = [] := by kernel_rfl
  rw [hvt, List.append_nil] at hsz
  obtain ⟨hgs, rfl⟩ := trodVars_none hV
  subst hgs
  rw [List.append_nil] at hsz
  rw [Tryz.params6] at hA hval hsz
  obtain ⟨v0, vs0, d0, ds0, p0, q0, hargs, rfl, rfl, h0, r0⟩ := trodAll_cons hA
  obtain ⟨v1, vs1, d1, ds1, p1, q1, rfl, rfl, rfl, h1, r1⟩ := trodAll_cons r0
  obtain ⟨v2, vs2, d2, ds2, p2, q2, rfl, rfl, rfl, h2, r2⟩ := trodAll_cons r1
  obtain ⟨v3, vs3, d3, ds3, p3, q3, rfl, rfl, rfl, h3, r3⟩ := trodAll_cons r2
  obtain ⟨rfl, rfl, rfl⟩ := trodAll_nil r3
  obtain rfl : args = #[v0, v1, v2, v3] := by cases args; simp_all
  obtain ⟨ov, l0, a0, b0⟩ := open_sorts (hval 0 49 v0 rfl rfl) h0 (near_of hsz (j := 0) rfl rfl)
  obtain ⟨sv, l1, a1, b1⟩ := open_sizes (hval 1 22 v1 rfl rfl) h1 (near_of hsz (j := 1) rfl rfl)
  obtain ⟨tv, l2, a2, b2⟩ := open_tables (hval 2 23 v2 rfl rfl) h2 (near_of hsz (j := 2) rfl rfl)
  obtain ⟨cv, l3, a3, b3⟩ := open_sizes (hval 3 22 v3 rfl rfl) h3 (near_of hsz (j := 3) rfl rfl)
  have hx := cellsLayouts_s b0 b1 b2 b3
  have hL' : laidMetH Tryz.prog Rows.cellsTuplesRow.laid W := hL
  refine (tuples.walk hL' (i := 6) (f := F6) rfl (vs := [ov, sv, tv, cv]) (xs := [v0, v1, v2, v3]) (.cons _ _ _ _ a0 (.cons _ _ _ _ a1 (.cons _ _ _ _ a2 (.cons _ _ _ _ a3 .nil)))) hx).mono fun e W' hp => ?_
  obtain ⟨rfl, G', H', hR, ho, hpt⟩ := hp
  refine ⟨_, rfl, tuples.post_true hW' rfl (fun t ht => ?_) (by kernel_rfl) rfl (fun _ => rfl) rfl hR ho hpt⟩
  rw [Tryz.params6] at ht
  have : t = 49 ∨ t = 22 ∨ t = 23 ∨ t = 22 := by simpa using ht
  rcases this with rfl | rfl | rfl | rfl
  · exact lt49
  · exact lt22
  · exact lt23
  · exact lt22

theorem laid_met (os : Os) : laidMet Tryz.prog Rows.cellsLayoutsRow.laid ((laidWorld os).forCall (fun _ _ => 0) ⟨#[], #[.slice none 0 0, .slice none 0 0, .slice none 0 0, .slice none 0 0], []⟩).memory :=
  laidMet_of_run3 12 (by kernel_rfl) (by kernel_rfl) (by kernel_rfl)
theorem laid_metH (os : Os) : laidMetH Tryz.prog Rows.cellsLayoutsRow.laid ((laidWorld os).forCall (fun _ _ => 0) ⟨#[], #[.slice none 0 0, .slice none 0 0, .slice none 0 0, .slice none 0 0], []⟩).memory := by
  have hf : (Rows.cellsLayoutsRow.laid.filter fun x => x.2.handleName?.isSome) = [] := by kernel_rfl
  unfold laidMetH
  rw [hf]; exact laid_met os
theorem reads (os : Os) {H : Type} (enc : TypeId × Value → H) : ∃ places, DataW.whole enc Tryz.prog ((laidWorld os).forCall (fun _ _ => 0) ⟨#[], #[.slice none 0 0, .slice none 0 0, .slice none 0 0, .slice none 0 0], []⟩).memory Tryz.f6.params.toList Rows.cellsLayoutsSpec.vars false #[Value.slice none 0 0, .slice none 0 0, .slice none 0 0, .slice none 0 0].toList 8 = some ([.nil, .nil, .nil, .nil], [], places) :=
  ⟨[], by kernel_rfl⟩

theorem lifted (os : Os) (started : os.Started) (H : Type) (enc : TypeId × Value → H) (F : Stop.Interp) :
    ReturnsInHanded {} Tryz.checked os 6 .any ((OpenSpec.ofChange Rows.cellsLayoutsSpec).preRow enc Tryz.prog Tryz.f6 Rows.cellsLayoutsRow.domain false Rows.cellsLayoutsRow.laid) (((OpenSpec.ofChange Rows.cellsLayoutsSpec).at F).post enc Tryz.prog Tryz.f6 false true false false) := by
  obtain ⟨places, hx⟩ := reads os enc
  refine returnsInHanded_of_row (C := Tryz.checked) (s := OpenSpec.ofChange Rows.cellsLayoutsSpec) own started (by kernel_rfl) Tryz.func6
    (witness_row_atRef (enc := enc) (C := Tryz.checked) false (laidWorld os) #[.slice none 0 0, .slice none 0 0, .slice none 0 0, .slice none 0 0] rfl (by kernel_rfl) (by kernel_rfl) (by kernel_rfl)
      (OpenSpec.preRow_of_cond 8 hx (by kernel_rfl) (fun k hk => by cases hk) (by kernel_rfl) (laid_metH os))) ?_
  intro W base args ds gs before hval hW _ _ hsz hL _ _
  exact contract H enc W base args ds gs before hval hW hsz hL

theorem said : Rows.CellsLayoutsSaid :=
  OpenClaim.holds_of_cond 6 Tryz.f6 rfl rfl rfl rfl rfl rfl rfl ⟨rfl, rfl, rfl, rfl, rfl⟩ rfl rfl rfl rfl rfl (by kernel_rfl) Tryz.func6 (by kernel_rfl)
    (of_decide_eq_true (by kernel_rfl)) (by unfold Func.isWrapper; first | (rw [if_pos (by decide +kernel)]; kernel_rfl) | (rw [if_neg (by decide +kernel)]; exact ⟨rfl, rfl⟩))
    (fun os started H enc _ F => by rw [OpenClaim.pre_eq_preRow]; exact lifted os started H enc F)

theorem plain (f : FuncId) (fn : Func) (hf : Tryz.pinned.checked.prog.funcNamed Rows.cellsLayoutsRow.func = some f) (hfn : Tryz.pinned.checked.prog.funcs[f]? = some fn) :
    true = Tryz.pinned.checked.prog.looks [] ∧ ∀ (j : Nat) t, fn.params[j]? = some t → Tryz.pinned.checked.prog.wantsStandIn t = false := by
  obtain rfl : f = 6 := Option.some.inj ((show Tryz.prog.funcNamed Rows.cellsLayoutsRow.func = some 6 by kernel_rfl).symm.trans hf) |>.symm
  obtain rfl : fn = Tryz.f6 := (Option.some.inj (Tryz.func6.symm.trans hfn)).symm
  refine ⟨by kernel_rfl, fun j t ht => ?_⟩
  rw [Tryz.params6] at ht
  have : t = 22 ∨ t = 23 ∨ t = 49 := by have h := Array.mem_of_getElem? ht; simp at h; rcases h with h | h | h | h <;> simp [h]
  rcases this with rfl | rfl | rfl
  · exact (show Tryz.prog.wantsStandIn 22 = false by kernel_rfl)
  · exact (show Tryz.prog.wantsStandIn 23 = false by kernel_rfl)
  · exact (show Tryz.prog.wantsStandIn 49 = false by kernel_rfl)

theorem card : Rows.CellsLayoutsCardSaid :=
  Claim7.holds_tied_plain_at .later [] _ _ _ _ said (fun _ h => by cases h) (by kernel_rfl) (fun _ h => by cases h) cellsLayouts_row_tie rfl ⟨rfl, rfl⟩ (by kernel_rfl) rfl plain (by kernel_rfl)
end Go.Proofs.YteiajndkjnlmiaaGreatDoor.layouts
