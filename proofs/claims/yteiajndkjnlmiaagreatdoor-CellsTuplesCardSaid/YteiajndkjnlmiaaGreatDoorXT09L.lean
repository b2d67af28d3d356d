/- CellsTuples answers true at every input, and leaves its arguments as they were: the card. -/
import Derived.Test.YteiajndkjnlmiaaGreatDoorXT09K
import Derived.Test.YteiajndkjnlmiaaGreatDoorXS9
set_option linter.unusedVariables false
set_option linter.unusedSimpArgs false
namespace Go.Proofs.YteiajndkjnlmiaaGreatDoor.tuples
open Go Go.Abs Go.Abs.T09 Go.Proofs Go.ChangeShapes Go.WideShapes Go.ChangeAt Go.RowKit
set_option maxRecDepth 100000

/-- A law's answer: true, and what was there is as it was. -/
theorem post_true {H : Type} {enc : TypeId × Value → H} {f : Func} {s : ChangeSpec} {apart fresh handsOn again : Bool} {W W' : World} {args : Array Value} {ds gs : List (DataW H)} {before : List MemPlace} {G' : Gh} {H' : Heap}
    (hW : DataW.Whole enc Tryz.prog f.params.toList s.vars apart W args.toList ds gs before) (hv : s.vars = []) (hT : ∀ t ∈ f.params.toList, t < Tryz.prog.types.size) (hr : f.resultTypes = #[4])
    (hfn : (s.fn H (ds ++ gs)).results = [.lit (.bool true)]) (hfa : gs = [] → (s.fn H (ds ++ gs)).args = ds) (hfv : (s.fn H (ds ++ gs)).vars = [])
    (hR : RelH (C fun b => W.heap[b]?) id G' H' W') (ho : W'.os = W.os) (hp : W'.output = W.output) : s.post enc Tryz.prog f apart fresh handsOn again W args (.bool true) W' := by
  have hlt := hW.lt
  have hold : ∀ p ∈ before, (fun b => decide (b < W.heap.size)) p.block = true := fun p hp => by simpa using hlt p hp
  have hW0 := hW
  obtain ⟨pa, q, hA, hV, hps, hz, hn⟩ := hW
  rw [hv] at hV
  obtain ⟨hgs, rfl⟩ := trodVars_none hV
  rw [List.append_nil] at hps
  subst hps
  have hargs : ∀ sp : Nat → Bool, (∀ p ∈ before, sp p.block = true) → DataW.TrodAll enc Tryz.prog W' 0 sp true f.params.toList args.toList (s.fn H (ds ++ gs)).args before := fun sp hsp => by
    rw [hfa hgs]
    exact stays_all kids (fun h hu => slices_pos h hu) hT hA (fun q hq => sameAt_old hR (hlt q hq)) hsp
  have hvars : ∀ sp : Nat → Bool, DataW.TrodVars enc Tryz.prog W' sp s.vars (s.fn H (ds ++ gs)).vars [] := fun sp => by rw [hv, hfv]; rfl
  have hres : ∀ (b : Nat) (sp : Nat → Bool) (hd : Bool), DataW.TrodAll enc Tryz.prog W' b sp hd f.resultTypes.toList ((Value.bool true).resultList f.resultTypes.size) (s.fn H (ds ++ gs)).results [] := fun b sp hd => by
    rw [hr, hfn]
    exact trodAll_cons_mk (shut_bool Tryz.underlying4 _) trodAll_mk0
  refine ⟨ds, gs, before, [], before, [], hW0, hres _ _ _, hargs _ hold, hvars _, kept_of hR ho hp _, fun _ => ?_⟩
  refine ⟨ok_one hr rfl (okWide_bool_mk Tryz.underlying4 _), _, _, ([] ++ before) ++ [], ⟨[] ++ before, [], trodAll_append (hargs _ (fun _ _ => rfl)) (hres _ _ _), hvars _, rfl, ?_, ?_⟩, ?_⟩
  · intro b off hp'
    have hm : MemPlace.cell b off ∈ before := by simpa using hp'
    rw [frozen_old hR (hlt _ hm)]
    exact hz b off hm
  · intro ha
    simpa using hn ha
  · intro p hp' _
    simpa using hp'

/-- The table of the white bytes, in every world that the executor's relation reaches. -/
theorem space_tab {W : World} (h : laidMetH Tryz.prog Rows.cellsTuplesRow.laid W) : Lib.TabIs Tryz.prog W "strings.asciiSpace" .u8 Lib.asciiSpaceTab := by
  have hf : (Rows.cellsTuplesRow.laid.filter fun x => x.2.handleName?.isSome) = [] := by kernel_rfl
  unfold laidMetH at h
  rw [hf] at h
  have hm : ("strings.asciiSpace", Lib.tabData .u8 Lib.asciiSpaceTab) ∈ Rows.cellsTuplesRow.laid := by
    have e : Rows.cellsTuplesRow.laid[6]? = some ("strings.asciiSpace", Lib.tabData .u8 Lib.asciiSpaceTab) := by kernel_rfl
    exact List.mem_of_getElem? e
  exact tabIs_of_mem (g := 1) (t := 126) (e := 5) (n := 256) (by kernel_rfl) (by kernel_rfl) (by kernel_rfl) (by kernel_rfl) (by kernel_rfl) (by kernel_rfl) h hm

/-- What the executor says, for every world that holds the table. -/
theorem walk {W : World} (hL : laidMetH Tryz.prog Rows.cellsTuplesRow.laid W) {i : Nat} {f : AFunc} (hi : tab i = some (.code f)) {vs : List V} {xs : List Value} (hvs : PRels W (G0 W).I vs xs)
    (he : callL tab (.fn i [] []) vs [] = some (.bool true, [], 0)) :
    Calls Tryz.prog i ⟨xs⟩ W fun e W' => e = .returned (.bool true) ∧ ∃ G' H', RelH (C fun b => W.heap[b]?) id G' H' W' ∧ W'.os = W.os ∧ W'.output = W.output := by
  obtain ⟨n, hn⟩ := callL_iff.1 he
  have hT : TabOk (C fun b => W.heap[b]?) id tab := tab_ok fun G H w hR => tabIs_old hR (space_tab hL)
  have h := calls_of_exec (C := C fun b => W.heap[b]?) (fid := id) (Checked.mixed Tryz.checked) ctx_ok hT hi hn (start_rel W) (PRels.toV hvs)
  refine Calls.mono h fun e W' hp => ?_
  obtain ⟨x, rfl, G', h1, h2, h3⟩ := hp
  rw [h3.boolInv]
  have hE := h2 0 (Nat.le_refl _)
  exact ⟨rfl, G', _, h1, hE.os, hE.output⟩

theorem contract (H : Type) (enc : TypeId × Value → H) (W : World) (base : Nat) (args : Array Value) (ds gs : List (DataW H)) (before : List MemPlace)
    (hval : ∀ (j : Nat) t v, Tryz.f7.params[j]? = some t → args[j]? = some v → Value.okWide Tryz.prog W .any base t v)
    (hW : DataW.Whole enc Tryz.prog Tryz.f7.params.toList Rows.cellsTuplesSpec.vars false W args.toList ds gs before)
    (hsz : (DataW.weightsEach Tryz.prog (Tryz.f7.params.toList ++ (OpenSpec.ofChange Rows.cellsTuplesSpec).bare.plain.varTypes Tryz.prog) (ds ++ gs)).all (· ≤ reachBytes) = true)
    (hL : laidMetH Tryz.prog Rows.cellsTuplesRow.laid W) :
    Calls Tryz.prog 7 args W fun e W' => ∃ v, e = .returned v ∧ Rows.cellsTuplesSpec.post enc Tryz.prog Tryz.f7 false true false false W args v W' := by
  have hW' := hW
  obtain ⟨p, q, hA, hV, hbe, hfz, hnd⟩ := hW
  have hvt : (OpenSpec.ofChange Rows.cellsTuplesSpec).bare.plain.varTypes Tryz.prog = [] := by kernel_rfl
  rw [hvt, List.append_nil] at hsz
  obtain ⟨hgs, rfl⟩ := trodVars_none hV
  subst hgs
  rw [List.append_nil] at hsz
  rw [Tryz.params7] at hA hval hsz
  obtain ⟨v0, vs0, d0, ds0, p0, q0, hargs, rfl, rfl, h0, r0⟩ := trodAll_cons hA
  obtain ⟨v1, vs1, d1, ds1, p1, q1, rfl, rfl, rfl, h1, r1⟩ := trodAll_cons r0
  obtain ⟨rfl, rfl, rfl⟩ := trodAll_nil r1
  obtain rfl : args = #[v0, v1] := by cases args; simp_all
  have hb : Tryz.prog.bytesOf 3 = 8 := by kernel_rfl
  have hc : Tryz.prog.cellsOf 3 = 1 := by kernel_rfl
  have hl : ∀ (j : Nat) d, [d0, d1][j]? = some d → [22, 22][j]? = some 22 → ∀ elems spare, d = .slice elems spare → elems.length < 4611686018427387904 := fun j d hj ht elems spare e => by
    subst e
    have := sized_slice hsz (j := j) ht hj Tryz.underlying22
    rw [hb] at this
    exact bytes_pos (l := elems.length) (n := 0) (by omega)
  obtain ⟨sv, l0, a0, b0, c0, e0⟩ := open_vi Tryz.underlying22 Tryz.underlying3 hc (hval 0 22 v0 rfl rfl) h0 (hl 0 d0 rfl rfl)
  obtain ⟨cv, l1, a1, b1, c1, e1⟩ := open_vi Tryz.underlying22 Tryz.underlying3 hc (hval 1 22 v1 rfl rfl) h1 (hl 1 d1 rfl rfl)
  have hx := cellsTuples_s (sv := sv) (cv := cv) (sizes := l0) (cols := l1) ⟨b0, c0, e0⟩ ⟨b1, c1, e1⟩
  refine (walk hL (i := 7) (f := F7) rfl (vs := [sv, cv]) (xs := [v0, v1]) (.cons _ _ _ _ a0 (.cons _ _ _ _ a1 .nil)) hx).mono fun e W' hp => ?_
  obtain ⟨rfl, G', H', hR, ho, hpt⟩ := hp
  refine ⟨_, rfl, post_true hW' rfl (fun t ht => ?_) (by kernel_rfl) rfl (fun _ => rfl) rfl hR ho hpt⟩
  rw [Tryz.params7] at ht
  have : t = 22 := by simpa using ht
  subst this
  exact of_decide_eq_true (by kernel_rfl)
end Go.Proofs.YteiajndkjnlmiaaGreatDoor.tuples
