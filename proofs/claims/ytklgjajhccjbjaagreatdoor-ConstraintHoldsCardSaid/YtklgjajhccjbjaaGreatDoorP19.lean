/- ConstraintHolds: the words, and its answer over the table that holds them. -/
import Derived.Test.YtklgjajhccjbjaaGreatDoorP18
import Derived.Test.YtklgjajhccjbjaaGreatDoorP11
import Derived.Test.YtklgjajhccjbjaaGreatDoorP09
import Derived.Deep.DeepWitnessRowRef
set_option linter.unusedVariables false
set_option linter.unusedSimpArgs false
namespace Go.Abs.T12
open Go Go.Abs Go.Abs.Cyc Go.Proofs
set_option maxRecDepth 100000
variable {g : Nat → Option Obj}

noncomputable def h1T : Nat → Option Fun := over tab0 19 (word tab0 19)
noncomputable def h2T : Nat → Option Fun := over tabC1 21 (word tab0 21)
noncomputable def h3T : Nat → Option Fun := over (over tab0 41 (word tab0 41)) 42 (word tab0 42)
noncomputable def h4T : Nat → Option Fun := over (over tab0 22 (word tab0 22)) 27 (recWord h3T 27 F27 6)
noncomputable def h5T : Nat → Option Fun := over (over h4T 12 (word h4T 12)) 23 (word tab0 23)
noncomputable def h6T : Nat → Option Fun := over (over (over (over (over (over (over (over tab0 5 (word tab7 5)) 6 (word h1T 6)) 7 (word tab0 7)) 8 (word h2T 8)) 9 (word h5T 9)) 10 (word tab0 10)) 11 (word tabB 11)) 12 (word h4T 12)

theorem few_w (k fam b f s : Int) (tv : V) (l : List (Int × Int)) (h : VT tv l) : word h1T 6 [.agg (con k fam tv b f s)] = some (.bool (fewB l && small9 b)) :=
  word_eq (few_s ⟨⟨_, over_same _ _ _, fun _ _ h => word_eq (fewTerms_s (by rfl) (by rfl) h) rfl⟩⟩ ((over_other _ _ (by decide)).trans (by rfl)) h) rfl
theorem fewv_w (sv : V) (l : List Int) (h : VL sv l) : word tab0 7 [sv] = some (.bool (fewV l)) := word_eq (fewValues_s (by rfl) h) rfl

theorem h2_w : Tw h2T where
  h20 := by obtain ⟨sp, a, b⟩ := tabC_w.h20; exact ⟨sp, (over_other _ _ (by decide)).trans a, b⟩
  h11 := by obtain ⟨sp, a, b⟩ := tabC_w.h11; exact ⟨sp, (over_other _ _ (by decide)).trans a, b⟩
theorem h2_b : Th2 h2T := ⟨_, over_same _ _ _, fun _ _ h1 h2 => word_eq (bounded_s (by rfl) h1 h2) rfl⟩
theorem h2_8 : h2T 8 = some (.code F8) := (over_other _ _ (by decide)).trans ((tabC_o (by decide) (by decide) (by decide)).trans (by rfl))

theorem holds_w2 (k fam b f s : Int) (tv sv : V) (l : List (Int × Int)) (vals : List Int) (h : Row tv sv l vals) : word h2T 8 [.agg (con k fam tv b f s), sv] = some (.bool (holdsB k b f s l vals)) := by
  unfold holdsB
  by_cases hk : k = 1
  · subst hk
    rw [if_pos rfl]
    exact word_eq (holds_a h2_8 h2_w (slE_cellOk h.t.sl) (slE_isP h.t.sl) h.v (slE_isP h.v.sl)) rfl
  · rw [if_neg hk]
    exact word_eq (holds_b h2_b h2_8 hk h) rfl

theorem h3_r : Tr h3T where
  h41 := ⟨_, (over_other _ _ (by decide)).trans (over_same _ _ _), fun _ _ _ _ _ _ _ _ g _ _ ha hb => word_eq (edge2_s (by rfl) g ha hb) rfl⟩
  h42 := ⟨_, over_same _ _ _, fun _ _ _ h => word_eq (has2_s (by rfl) h) rfl⟩

theorem h4_z : Tz h4T where
  h22 := ⟨_, (over_other _ _ (by decide)).trans (over_same _ _ _), fun _ _ _ _ _ _ _ _ h hn => word_eq (inside_s (by rfl) h hn) rfl⟩
  h27 := ⟨_, over_same _ _ _, fun k fam bd t sv f s vals g htp d a hd ha => by
    have hP : Path (edgeB vals f s) s [a] := (stage_start [a] (List.mem_map.2 ⟨a, List.mem_range.2 ha, rfl⟩)).1
    obtain ⟨v, q1, -, q3⟩ := paths_w h3_r g htp 5 d hd (by omega) [a] hP
    exact ⟨v, q1, q3⟩⟩

theorem refCycle_isP (vals : List Int) (k f s : Int) : isP (if graphB k f s vals.length then cycV vals f.toNat s.toNat else .nil0) = true := by
  split
  · exact cycV_isP _ _ _
  · rfl
theorem refCycle_w (k fam bd f s : Int) (tv sv : V) (l : List (Int × Int)) (vals : List Int) (ht : VT tv l) (hv : VL sv vals) : word h4T 12 [.agg (con k fam tv bd f s), sv] = some (if graphB k f s vals.length then cycV vals f.toNat s.toNat else .nil0) :=
  word_eq (refCycle_s h4_z ((over_other _ _ (by decide)).trans ((over_other _ _ (by decide)).trans (by rfl))) ht hv) (refCycle_isP _ _ _ _)

theorem h5_y : Ty h5T where
  h22 := by obtain ⟨sp, a, b⟩ := h4_z.h22; exact ⟨sp, (over_other _ _ (by decide)).trans ((over_other _ _ (by decide)).trans a), b⟩
  h27 := by obtain ⟨sp, a, b⟩ := h4_z.h27; exact ⟨sp, (over_other _ _ (by decide)).trans ((over_other _ _ (by decide)).trans a), b⟩
  h12 := ⟨_, (over_other _ _ (by decide)).trans (over_same _ _ _), refCycle_w⟩
  h23 := ⟨_, over_same _ _ _, fun _ _ _ _ _ h hin => word_eq (small_s (by rfl) h hin) rfl⟩
theorem refHolds_w (k fam b f s : Int) (tv sv : V) (l : List (Int × Int)) (vals : List Int) (h : Row tv sv l vals) : word h5T 9 [.agg (con k fam tv b f s), sv] = some (.bool (holdsB k b f s l vals)) :=
  word_eq (refHolds_s h5_y ((over_other _ _ (by decide)).trans ((over_other _ _ (by decide)).trans ((over_other _ _ (by decide)).trans ((over_other _ _ (by decide)).trans (by rfl))))) h) rfl

theorem h6_v : Tv h6T where
  h3 := (over_other _ _ (by decide)).trans ((over_other _ _ (by decide)).trans ((over_other _ _ (by decide)).trans ((over_other _ _ (by decide)).trans ((over_other _ _ (by decide)).trans ((over_other _ _ (by decide)).trans ((over_other _ _ (by decide)).trans ((over_other _ _ (by decide)).trans (by rfl))))))))
  h5 := ⟨_, (over_other _ _ (by decide)).trans ((over_other _ _ (by decide)).trans ((over_other _ _ (by decide)).trans ((over_other _ _ (by decide)).trans ((over_other _ _ (by decide)).trans ((over_other _ _ (by decide)).trans ((over_other _ _ (by decide)).trans (over_same _ _ _))))))), awake_w⟩
  h6 := ⟨_, (over_other _ _ (by decide)).trans ((over_other _ _ (by decide)).trans ((over_other _ _ (by decide)).trans ((over_other _ _ (by decide)).trans ((over_other _ _ (by decide)).trans ((over_other _ _ (by decide)).trans (over_same _ _ _)))))), few_w⟩
  h7 := ⟨_, (over_other _ _ (by decide)).trans ((over_other _ _ (by decide)).trans ((over_other _ _ (by decide)).trans ((over_other _ _ (by decide)).trans ((over_other _ _ (by decide)).trans (over_same _ _ _))))), fewv_w⟩
  h8 := ⟨_, (over_other _ _ (by decide)).trans ((over_other _ _ (by decide)).trans ((over_other _ _ (by decide)).trans ((over_other _ _ (by decide)).trans (over_same _ _ _)))), holds_w2⟩
  h9 := ⟨_, (over_other _ _ (by decide)).trans ((over_other _ _ (by decide)).trans ((over_other _ _ (by decide)).trans (over_same _ _ _))), refHolds_w⟩
  h10 := ⟨_, (over_other _ _ (by decide)).trans ((over_other _ _ (by decide)).trans (over_same _ _ _)), fun _ _ _ ha hb => word_eq (ints_s (by rfl) ha hb) rfl⟩
  h11 := ⟨_, (over_other _ _ (by decide)).trans (over_same _ _ _), cycle_w⟩
  h12 := ⟨_, over_same _ _ _, refCycle_w⟩

theorem holds_all {k fam b f s : Int} {tv sv : V} {l : List (Int × Int)} {vals : List Int} (ht : VT tv l) (hv : VL sv vals) :
    callL h6T (.fn 3 [] []) [.agg (con k fam tv b f s), sv] [] = some (.bool true, [], 0) := constraintHolds_s h6_v ht hv

/-! ### the tables are the program's -/
theorem tabC1_ok (h : TabOk (C g) id tab0) : TabOk (C g) id tabB ∧ TabOk (C g) id tabC1 :=
  have h1 := over_ok h (word_ok mixed ctx_ok h (i := 20) (f := F20) rfl)
  have h2 := over_ok h1 (word_ok mixed ctx_ok h1 (i := 25) (f := F25) (by rw [over_other _ _ (by decide)]; rfl))
  ⟨h2, over_ok h2 (word_ok mixed ctx_ok h2 (i := 11) (f := F11) (by rw [over_other _ _ (by decide), over_other _ _ (by decide)]; rfl))⟩

theorem h6T_ok (h : TabOk (C g) id tab0) : TabOk (C g) id h6T :=
  have hB := (tabC1_ok h).1
  have hC := (tabC1_ok h).2
  have a1 : TabOk (C g) id h1T := over_ok h (word_ok mixed ctx_ok h (i := 19) (f := F19) rfl)
  have a2 : TabOk (C g) id h2T := over_ok hC (word_ok mixed ctx_ok h (i := 21) (f := F21) rfl)
  have a3 : TabOk (C g) id h3T := over_ok (over_ok h (word_ok mixed ctx_ok h (i := 41) (f := F41) rfl)) (word_ok mixed ctx_ok h (i := 42) (f := F42) rfl)
  have a4 : TabOk (C g) id h4T := over_ok (over_ok h (word_ok mixed ctx_ok h (i := 22) (f := F22) rfl)) (recWord_ok mixed ctx_ok a3 (i := 27) (f := F27) (h.code 27 F27 rfl) 6)
  have x12 : ExtOk (C g) id 12 (word h4T 12) := word_ok mixed ctx_ok a4 (i := 12) (f := F12) ((over_other _ _ (by decide)).trans ((over_other _ _ (by decide)).trans (by rfl)))
  have a5 : TabOk (C g) id h5T := over_ok (over_ok a4 @x12) (word_ok mixed ctx_ok h (i := 23) (f := F23) rfl)
  have x9 : ExtOk (C g) id 9 (word h5T 9) := word_ok mixed ctx_ok a5 (i := 9) (f := F9) ((over_other _ _ (by decide)).trans ((over_other _ _ (by decide)).trans ((over_other _ _ (by decide)).trans ((over_other _ _ (by decide)).trans (by rfl)))))
  have x8 : ExtOk (C g) id 8 (word h2T 8) := word_ok mixed ctx_ok a2 (i := 8) (f := F8) h2_8
  have x6 : ExtOk (C g) id 6 (word h1T 6) := word_ok mixed ctx_ok a1 (i := 6) (f := F6) ((over_other _ _ (by decide)).trans (by rfl))
  have x11 : ExtOk (C g) id 11 (word tabB 11) := word_ok mixed ctx_ok hB (i := 11) (f := F11) (by rw [tabB_o (by decide) (by decide)]; rfl)
  over_ok (over_ok (over_ok (over_ok (over_ok (over_ok (over_ok (over_ok h (word_ok mixed ctx_ok (tab7_ok h) (i := 5) (f := F5) rfl)) @x6) (word_ok mixed ctx_ok h (i := 7) (f := F7) rfl)) @x8) @x9) (word_ok mixed ctx_ok h (i := 10) (f := F10) rfl)) @x11) @x12
end Go.Abs.T12
/- A constraint and a list of values, read. -/
namespace Go.Abs.T12
open Go Go.Abs Go.Proofs
set_option maxRecDepth 100000

section
variable {W : World} {H : Type} {enc : TypeId × Value → H}

theorem near_part {t : TypeId} {fs : Array Field} {parts : List (DataW H)} (ht : Tryz.prog.underlying t = some (.struct fs)) (h : Near Tryz.prog t (.agg parts)) {i : Nat} {f : Field} {d : DataW H} (hf : fs[i]? = some f) (hd : parts[i]? = some d) : Near Tryz.prog f.type d :=
  fun n hn => h n (weights_part ht hf hd n hn)

theorem rd_vl {sv : V} {d : DataW H} (hn : Near Tryz.prog 27 d) (h : RD Tryz.prog 27 d [sv]) : ∃ l, VL sv l := by
  rcases rd_slice Tryz.underlying27 h with ⟨rfl, hv⟩ | ⟨elems, spare, ls, rfl, hv, hl, hr⟩
  · cases hv; exact ⟨[], rfl, rfl, by decide⟩
  · cases hv
    have hlen := near_len Tryz.underlying27 (of_decide_eq_true (by kernel_rfl)) hn
    rw [show Tryz.prog.cellsOf 3 = 1 by kernel_rfl]
    obtain ⟨xs, h1, h2, -⟩ := rd_all (A := Int) (P := Tryz.prog) (t := 27) (e := 3) (spare := spare) (c := fun n => [.int .i64 n]) (ok := fun _ => True) hl (fun i d l hd hi => by
      obtain ⟨n, -, rfl, -⟩ := rd_int Tryz.underlying3 (hr i d l hd hi)
      exact ⟨n, rfl, trivial⟩)
    exact ⟨xs, rfl, h1, by omega⟩

theorem list2 {α : Type} {l : List α} (h : l.length = 2) : ∃ a b, l = [a, b] := by
  match l, h with
  | [a, b], _ => exact ⟨a, b, rfl⟩
theorem list5 {α : Type} {l : List α} (h : l.length = 5) : ∃ a b c d e, l = [a, b, c, d, e] := by
  match l, h with
  | [a, b, c, d, e], _ => exact ⟨a, b, c, d, e, rfl⟩

theorem rd_tm {d : DataW H} {l : List V} (h : RD Tryz.prog 60 d l) : ∃ p : Int × Int, l = [.int .i64 p.1, .int .i64 p.2] := by
  obtain ⟨parts, ls, rfl, rfl, hp, hl, hr⟩ := rd_struct Tryz.underlying60 h
  obtain ⟨p0, p1, rfl⟩ := list2 hp
  obtain ⟨l0, l1, rfl⟩ := list2 hl
  obtain ⟨a, -, rfl, -⟩ := rd_int Tryz.underlying3 (hr 0 _ _ _ rfl rfl rfl)
  obtain ⟨b, -, rfl, -⟩ := rd_int Tryz.underlying3 (hr 1 _ _ _ rfl rfl rfl)
  exact ⟨(a, b), rfl⟩

theorem rd_vt {tv : V} {d : DataW H} (hn : Near Tryz.prog 22 d) (h : RD Tryz.prog 22 d [tv]) : ∃ l, VT tv l := by
  rcases rd_slice Tryz.underlying22 h with ⟨rfl, hv⟩ | ⟨elems, spare, ls, rfl, hv, hl, hr⟩
  · cases hv; exact ⟨[], rfl, rfl, by decide⟩
  · cases hv
    have hlen := near_len Tryz.underlying22 (of_decide_eq_true (by kernel_rfl)) hn
    rw [show Tryz.prog.cellsOf 60 = 2 by kernel_rfl]
    obtain ⟨xs, h1, h2, -⟩ := rd_all (A := Int × Int) (P := Tryz.prog) (t := 22) (e := 60) (spare := spare) (c := fun p => [.int .i64 p.1, .int .i64 p.2]) (ok := fun _ => True) hl (fun i d l hd hi => by
      obtain ⟨p, hp⟩ := rd_tm (hr i d l hd hi)
      exact ⟨p, hp, trivial⟩)
    exact ⟨xs, rfl, h1, by omega⟩

theorem rd_con {l : List V} {d : DataW H} (hn : Near Tryz.prog 26 d) (h : RD Tryz.prog 26 d l) : ∃ (k fam b f s : Int) (tv : V) (tl : List (Int × Int)), l = con k fam tv b f s ∧ VT tv tl := by
  obtain ⟨parts, ls, rfl, rfl, hp, hl, hr⟩ := rd_struct Tryz.underlying26 h
  obtain ⟨p0, p1, p2, p3, p4, rfl⟩ := list5 hp
  obtain ⟨l0, l1, l2, l3, l4, rfl⟩ := list5 hl
  have n2 := near_part Tryz.underlying26 hn (i := 2) rfl rfl
  obtain ⟨k, -, rfl, -⟩ := rd_int Tryz.underlying3 (hr 0 _ _ _ rfl rfl rfl)
  obtain ⟨fam, -, rfl, -⟩ := rd_int Tryz.underlying3 (hr 1 _ _ _ rfl rfl rfl)
  obtain ⟨f, -, rfl, -⟩ := rd_int Tryz.underlying3 (hr 3 _ _ _ rfl rfl rfl)
  obtain ⟨s, -, rfl, -⟩ := rd_int Tryz.underlying3 (hr 4 _ _ _ rfl rfl rfl)
  obtain ⟨ps, qs, rfl, rfl, hp3, hq3, hr3⟩ := rd_struct Tryz.underlying24 (hr 2 _ _ _ rfl rfl rfl)
  obtain ⟨r0, r1, rfl⟩ := list2 hp3
  obtain ⟨q0, q1, rfl⟩ := list2 hq3
  have n20 := near_part Tryz.underlying24 n2 (i := 0) rfl rfl
  obtain ⟨b, -, rfl, -⟩ := rd_int Tryz.underlying3 (hr3 1 _ _ _ rfl rfl rfl)
  have h2 := hr3 0 _ _ _ rfl rfl rfl
  obtain ⟨tv, rfl⟩ : ∃ tv, q0 = [tv] := by
    rcases rd_slice Tryz.underlying22 h2 with ⟨-, hv⟩ | ⟨_, _, _, -, hv, -⟩ <;> exact ⟨_, hv⟩
  obtain ⟨tl, htl⟩ := rd_vt n20 h2
  exact ⟨k, fam, b, f, s, tv, tl, rfl, htl⟩

theorem frag26 : frag Tryz.prog 8 26 = true := by kernel_rfl
theorem frag27 : frag Tryz.prog 8 27 = true := by kernel_rfl
theorem lt26 : 26 < Tryz.prog.types.size := of_decide_eq_true (by kernel_rfl)
theorem lt27 : 27 < Tryz.prog.types.size := of_decide_eq_true (by kernel_rfl)

theorem agg26 {b : Nat} {v : Value} (hval : Value.okWide Tryz.prog W .any b 26 v) : ∃ cs, v = .agg cs := by
  unfold Value.okWide at hval
  rw [Tryz.underlying26] at hval
  cases v <;> first | exact ⟨_, rfl⟩ | (simp at hval)

/-- The constraint that came in. -/
theorem open_con {b : Nat} {v : Value} (hval : Value.okWide Tryz.prog W .any b 26 v) {d : DataW H} {p : List MemPlace} {held : Bool} (hd : DataW.Trod enc Tryz.prog W 0 (fun _ => true) held 26 v d p) (hn : Near Tryz.prog 26 d) :
    ∃ (k fam bd f s : Int) (tv : V) (tl : List (Int × Int)), PRel W (G0 W).I (.agg (con k fam tv bd f s)) v ∧ VT tv tl := by
  obtain ⟨cs, rfl⟩ := agg26 hval
  obtain ⟨fuel, hd⟩ := hd
  obtain ⟨vs, r1, r2, -⟩ := reads laidOut 8 fuel 26 _ _ lt26 frag26 hd
  obtain ⟨k, fam, bd, f, s, tv, tl, rfl, htl⟩ := rd_con hn r1
  exact ⟨k, fam, bd, f, s, tv, tl, .agg _ cs.toList r2, htl⟩

/-- The values that came in. -/
theorem open_vals {b : Nat} {v : Value} (hval : Value.okWide Tryz.prog W .any b 27 v) {d : DataW H} {p : List MemPlace} {held : Bool} (hd : DataW.Trod enc Tryz.prog W 0 (fun _ => true) held 27 v d p) (hn : Near Tryz.prog 27 d) : ∃ sv l, PRel W (G0 W).I sv v ∧ VL sv l := by
  obtain ⟨sv, h1, h2⟩ := read_arg laidOut lt27 frag27 (not_agg Tryz.underlying27 hval) hd
  obtain ⟨l, hl⟩ := rd_vl hn h1
  exact ⟨sv, l, h2, hl⟩
end
end Go.Abs.T12
/- A law that answers true and leaves its arguments as they were; the executor at a world that holds the listed variables. -/
namespace Go.Proofs.YtklgjajhccjbjaaGreatDoor.cycles
open Go Go.Abs Go.Abs.T12 Go.Proofs Go.ChangeShapes Go.WideShapes Go.ChangeAt Go.RowKit
set_option maxRecDepth 100000

/-- A law's answer: true, and what was there is as it was. -/
theorem post_true {H : Type} {enc : TypeId × Value → H} {f : Func} {s : ChangeSpec} {apart fresh handsOn again : Bool} {W W' : World} {args : Array Value} {ds gs : List (DataW H)} {before : List MemPlace} {G' : Gh} {H' : Heap}
    (hW : DataW.Whole enc Tryz.prog f.params.toList s.vars apart W args.toList ds gs before) (hv : s.vars = []) (hT : ∀ t ∈ f.params.toList, t < Tryz.prog.types.size) (hr : f.resultTypes = #[4])
    (hfn : (s.fn H (ds ++ gs)).results = [.lit (.bool true)]) (hfa : gs = [] → (s.fn H (ds ++ gs)).args = ds) (hfv : (s.fn H (ds ++ gs)).vars = [])
    (hR : RelH (C fun b => W.heap[b]?) id G' H' W') (ho : W'.os = W.os) (hp : W'.output = W.output) : s.post enc Tryz.prog f apart fresh handsOn again W args (.bool true) W' := by
  have hlt := hW.lt
  have hold : ∀ p ∈ before, (fun b => decide (b < W.heap.size)) p.block = true := fun p hp => by simpa using hlt p hp
  have hW0 := hW
  obtain ⟨pa, q, hA, hV, hps, hz, hn⟩ := hW
  rw [hv] at hV
  obtain ⟨hgs, rfl⟩ := trodVars_none hV
  rw [List.append_nil] at hps
  subst hps
  have hargs : ∀ sp : Nat → Bool, (∀ p ∈ before, sp p.block = true) → DataW.TrodAll enc Tryz.prog W' 0 sp true f.params.toList args.toList (s.fn H (ds ++ gs)).args before := fun sp hsp => by
    rw [hfa hgs]
    exact stays_all kids (fun h hu => slices_pos h hu) hT hA (fun q hq => sameAt_old hR (hlt q hq)) hsp
  have hvars : ∀ sp : Nat → Bool, DataW.TrodVars enc Tryz.prog W' sp s.vars (s.fn H (ds ++ gs)).vars [] := fun sp => by rw [hv, hfv]; rfl
  have hres : ∀ (b : Nat) (sp : Nat → Bool) (hd : Bool), DataW.TrodAll enc Tryz.prog W' b sp hd f.resultTypes.toList ((Value.bool true).resultList f.resultTypes.size) (s.fn H (ds ++ gs)).results [] := fun b sp hd => by
    rw [hr, hfn]
    exact trodAll_cons_mk (shut_bool Tryz.underlying4 _) trodAll_mk0
  refine ⟨ds, gs, before, [], before, [], hW0, hres _ _ _, hargs _ hold, hvars _, kept_of hR ho hp _, fun _ => ?_⟩
  refine ⟨ok_one hr rfl (okWide_bool_mk Tryz.underlying4 _), _, _, ([] ++ before) ++ [], ⟨[] ++ before, [], trodAll_append (hargs _ (fun _ _ => rfl)) (hres _ _ _), hvars _, rfl, ?_, ?_⟩, ?_⟩
  · intro b off hp'
    have hm : MemPlace.cell b off ∈ before := by simpa using hp'
    rw [frozen_old hR (hlt _ hm)]
    exact hz b off hm
  · intro ha
    simpa using hn ha
  · intro p hp' _
    simpa using hp'

/-- The table of the white bytes, in every world that the executor's relation reaches. -/
theorem space_tab {W : World} (h : laidMetH Tryz.prog Rows.constraintCyclesRow.laid W) : Lib.TabIs Tryz.prog W "strings.asciiSpace" .u8 Lib.asciiSpaceTab := by
  have hf : (Rows.constraintCyclesRow.laid.filter fun x => x.2.handleName?.isSome) = [] := by kernel_rfl
  unfold laidMetH at h
  rw [hf] at h
  have hm : ("strings.asciiSpace", Lib.tabData .u8 Lib.asciiSpaceTab) ∈ Rows.constraintCyclesRow.laid := by
    have e : Rows.constraintCyclesRow.laid[7]? = some ("strings.asciiSpace", Lib.tabData .u8 Lib.asciiSpaceTab) := by kernel_rfl
    exact List.mem_of_getElem? e
  exact tabIs_of_mem (g := 2) (t := 366) (e := 5) (n := 256) (by kernel_rfl) (by kernel_rfl) (by kernel_rfl) (by kernel_rfl) (by kernel_rfl) (by kernel_rfl) h hm

/-- What the executor says, for every world that holds the table. -/
theorem walk {W : World} {tab : Nat → Option Fun} (hok : TabOk (C fun b => W.heap[b]?) id tab0 → TabOk (C fun b => W.heap[b]?) id tab) (hL : laidMetH Tryz.prog Rows.constraintCyclesRow.laid W) {i : Nat} {f : AFunc} (hi : tab i = some (.code f)) {vs : List V} {xs : List Value} (hvs : PRels W (G0 W).I vs xs)
    (he : callL tab (.fn i [] []) vs [] = some (.bool true, [], 0)) :
    Calls Tryz.prog i ⟨xs⟩ W fun e W' => e = .returned (.bool true) ∧ ∃ G' H', RelH (C fun b => W.heap[b]?) id G' H' W' ∧ W'.os = W.os ∧ W'.output = W.output := by
  obtain ⟨n, hn⟩ := callL_iff.1 he
  have hT : TabOk (C fun b => W.heap[b]?) id tab := hok <| tab0_ok fun G H w hR => tabIs_old hR (space_tab hL)
  have h := calls_of_exec (C := C fun b => W.heap[b]?) (fid := id) (Checked.mixed Tryz.checked) ctx_ok hT hi hn (start_rel W) (PRels.toV hvs)
  refine Calls.mono h fun e W' hp => ?_
  obtain ⟨x, rfl, G', h1, h2, h3⟩ := hp
  rw [h3.boolInv]
  have hE := h2 0 (Nat.le_refl _)
  exact ⟨rfl, G', _, h1, hE.os, hE.output⟩

end Go.Proofs.YtklgjajhccjbjaaGreatDoor.cycles
/- A world for the witness: the variables hold what their initialisers lay. -/
namespace Go.Proofs.YtklgjajhccjbjaaGreatDoor
open Go Go.Abs Go.Abs.T12 Go.Proofs
set_option maxRecDepth 100000

def litsOf : DataW Unit → List Value
  | .agg xs => xs.map fun x => match x with
    | .lit (.int k n) => .int k n
    | _ => .tuple #[]
  | _ => []
def flatOf : DataW Unit → List Value
  | .agg xs => xs.flatMap litsOf
  | _ => []
def wordOf : DataW Unit → Value
  | .iface _ (.ptr (.agg [.lit (.string s)])) => .string ⟨⟨s⟩⟩
  | _ => .tuple #[]
def rowsOf : DataW Unit → List Value
  | .ptr (.agg (.slice xs _ :: _)) => xs.flatMap litsOf
  | _ => []

/-- The blocks that the variables point to. -/
def more : Array Obj := #[.cells #[wordOf Rows.laid_strconv_ErrRange] 404 (0, 0), .cells #[wordOf Rows.laid_strconv_ErrSyntax] 404 (0, 0),
  .cells #[.slice (some ⟨19, 0, none⟩) 7 7, .slice none 0 0, .int .i64 2] 421 (0, 0), .cells (rowsOf Rows.laid_unicode_White_Space).toArray 424 (0, 0)]

def setTo (cs : Array Value) : Obj → Obj
  | .cells _ t f => .cells cs t f
  | o => o

noncomputable def laidWorld (os : Os) : World :=
  { World.holding Tryz.prog os ⟨more, #[], []⟩ with heap := (((((((((World.holding Tryz.prog os ⟨more, #[], []⟩).heap.modify 2 (setTo (litsOf Rows.laid_strings_asciiSpace).toArray)).modify 0 (setTo (litsOf Rows.laid_internal_strconv_uint64pow10).toArray)).modify 5 (setTo #[.pointer (some ⟨18, 0, none⟩)])).modify 3
      (setTo #[.iface 402 (.pointer (some ⟨17, 0, none⟩))])).modify 4 (setTo #[.iface 402 (.pointer (some ⟨16, 0, none⟩))])).modify 6 (setTo (litsOf Rows.laid_math_bits_deBruijn32tab).toArray)).modify 7 (setTo (litsOf Rows.laid_math_bits_deBruijn64tab).toArray)).modify 8
      (setTo (litsOf Rows.laid_unicode_utf8_first).toArray)).modify 9 (setTo (flatOf Rows.laid_unicode_utf8_acceptRanges).toArray) }

theorem own : ownKnob Tryz.prog.godebug = none := by kernel_rfl

theorem laid_met0 (os : Os) : laidMet Tryz.prog Rows.constraintCyclesRow.laid ((laidWorld os).forCall (fun _ _ => 0) ⟨#[], #[.int .u8 0, .slice none 0 0, .int .u8 0, .int .u8 0], []⟩).memory :=
  laidMet_of_run3 12 (by kernel_rfl) (by kernel_rfl) (by kernel_rfl)
end Go.Proofs.YtklgjajhccjbjaaGreatDoor
