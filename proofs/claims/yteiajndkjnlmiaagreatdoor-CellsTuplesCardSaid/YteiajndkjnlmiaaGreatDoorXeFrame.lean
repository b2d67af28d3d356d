/- What the executor leaves of the heap as it was. Nothing here speaks of the real memory. -/
import Derived.Test.YteiajndkjnlmiaaGreatDoorXeComp
set_option linter.unusedVariables false
set_option linter.unusedSimpArgs false
namespace Go.Abs
open Go

/-- Objects older than 'low2' are as they were. -/
structure Fr (H : Heap) (low : Nat) (H' : Heap) (low' : Nat) : Prop where
  len : H.length ≤ H'.length
  low : low' ≤ low
  same : ∀ l, l < low' → H'[l]? = H[l]?

variable {H H' H1 H2 : Heap} {low low' low1 low2 : Nat} {ev : Opd → V} {v v' : V}

theorem Fr.refl (H : Heap) (low : Nat) : Fr H low H low := ⟨Nat.le_refl _, Nat.le_refl _, fun _ _ => rfl⟩
theorem Fr.trans (h : Fr H low H1 low1) (k : Fr H1 low1 H2 low2) : Fr H low H2 low2 :=
  ⟨Nat.le_trans h.len k.len, Nat.le_trans k.low h.low, fun l hl => (k.same l hl).trans (h.same l (Nat.lt_of_lt_of_le hl k.low))⟩
theorem Fr.push (hl : low ≤ H.length) (o : AObj) : Fr H low (H ++ [o]) low :=
  ⟨by simp, Nat.le_refl _, fun l h => by rw [List.getElem?_append_left (by omega)]⟩
theorem Fr.set (l : Nat) (o : AObj) : Fr H low (H.set l o) (min low l) :=
  ⟨by simp, Nat.min_le_left _ _, fun x h => by rw [List.getElem?_set_ne (by omega)]⟩
theorem Fr.lift (h : Fr H low1 H' low2) (low : Nat) : Fr H low H' (min low low2) :=
  ⟨h.len, Nat.min_le_left _ _, fun l hl => h.same l (by omega)⟩
theorem Fr.eq (h : Fr H low H' low') (hl : H.length ≤ low') (he : H'.length = H.length) : H' = H := by
  apply List.ext_getElem?
  intro l
  rcases Nat.lt_or_ge l low' with q | q
  · exact h.same l q
  · rw [List.getElem?_eq_none (by omega), List.getElem?_eq_none (by omega)]
theorem movedH_false (h : Fr H low H' low') (hm : movedH H H' low' = false) : H' = H := by
  simp only [movedH, Bool.or_eq_false_iff, decide_eq_false_iff_not, bne_eq_false_iff_eq] at hm
  exact h.eq (by omega) hm.2

theorem freeze1_fr (he : freeze1 H low v = some (v', H', low')) : Fr H low H' low' ∧ H'.length = H.length := by
  unfold freeze1 at he
  split at he
  · split at he
    · split at he
      · simp only [Option.some.injEq, Prod.mk.injEq] at he
        obtain ⟨-, rfl, rfl⟩ := he
        split
        · exact ⟨.refl _ _, rfl⟩
        · exact ⟨.set _ _, by simp⟩
      · cases he
    · cases he
  · simp only [Option.some.injEq, Prod.mk.injEq] at he
    obtain ⟨-, rfl, rfl⟩ := he
    exact ⟨.refl _ _, rfl⟩

theorem freezeL_fr : ∀ {vs vs' : List V} {H H' : Heap} {low low' : Nat}, freezeL H low vs = some (vs', H', low') → Fr H low H' low' ∧ H'.length = H.length
  | [], _, _, _, _, _, he => by
    simp only [freezeL, Option.some.injEq, Prod.mk.injEq] at he
    obtain ⟨-, rfl, rfl⟩ := he
    exact ⟨.refl _ _, rfl⟩
  | v :: r, _, _, _, _, _, he => by
    simp only [freezeL] at he
    split at he
    · rename_i h1
      split at he
      · rename_i h2
        simp only [Option.some.injEq, Prod.mk.injEq] at he
        obtain ⟨-, rfl, rfl⟩ := he
        have a := freeze1_fr h1
        have b := freezeL_fr h2
        exact ⟨a.1.trans b.1, b.2.trans a.2⟩
      · cases he
    · cases he

theorem freezeV_fr (he : freezeV H low v = some (v', H', low')) : Fr H low H' low' ∧ H'.length = H.length := by
  unfold freezeV at he
  split at he
  · simp only [Option.some.injEq, Prod.mk.injEq] at he
    obtain ⟨-, rfl, rfl⟩ := he
    exact ⟨.refl _ _, rfl⟩
  · split at he
    · split at he
      · rename_i h
        simp only [Option.some.injEq, Prod.mk.injEq] at he
        obtain ⟨-, rfl, rfl⟩ := he
        exact freezeL_fr h
      · cases he
    · split at he
      · rename_i h
        simp only [Option.some.injEq, Prod.mk.injEq] at he
        obtain ⟨-, rfl, rfl⟩ := he
        exact freezeL_fr h
      · cases he
    · exact freeze1_fr he

theorem freezeVs_fr : ∀ {vs vs' : List V} {H H' : Heap} {low low' : Nat}, freezeVs H low vs = some (vs', H', low') → Fr H low H' low' ∧ H'.length = H.length
  | [], _, _, _, _, _, he => by
    simp only [freezeVs, Option.some.injEq, Prod.mk.injEq] at he
    obtain ⟨-, rfl, rfl⟩ := he
    exact ⟨.refl _ _, rfl⟩
  | v :: r, _, _, _, _, _, he => by
    simp only [freezeVs] at he
    split at he
    · rename_i h1
      split at he
      · rename_i h2
        simp only [Option.some.injEq, Prod.mk.injEq] at he
        obtain ⟨-, rfl, rfl⟩ := he
        have a := freezeV_fr h1
        have b := freezeVs_fr h2
        exact ⟨a.1.trans b.1, b.2.trans a.2⟩
      · cases he
    · cases he

theorem storeA_fr {n : Nat} {a x : V} {l : Nat} (he : storeA H n a x = some (H', l)) : ∃ o, H' = H.set l o := by
  unfold storeA at he
  repeat' split at he
  all_goals first
    | (simp only [Option.some.injEq, Prod.mk.injEq] at he; obtain ⟨rfl, rfl⟩ := he; exact ⟨_, rfl⟩)
    | cases he

set_option maxHeartbeats 1000000 in
theorem step_fr {op : AOp} (hl : low ≤ H.length) (he : step ev H low op = some (v, H', low')) : Fr H low H' low' := by
  cases op with
  | alloc z =>
    simp only [step, Option.some.injEq, Prod.mk.injEq] at he
    obtain ⟨-, rfl, rfl⟩ := he
    exact .push hl _
  | box x =>
    simp only [step] at he
    split at he
    · simp only [Option.some.injEq, Prod.mk.injEq] at he
      obtain ⟨-, rfl, rfl⟩ := he
      exact .push hl _
    · cases he
  | build z parts =>
    simp only [step] at he
    split at he
    · rename_i h
      obtain ⟨cs, -, he⟩ := Option.map_eq_some_iff.1 he
      simp only [Prod.mk.injEq] at he
      obtain ⟨-, rfl, rfl⟩ := he
      exact (freezeVs_fr h).1
    · cases he
  | lit es z len parts im =>
    simp only [step] at he
    split at he
    · rename_i h
      have hf := freezeVs_fr h
      have hl' : low' ≤ low' := Nat.le_refl _
      split at he
      · split at he
        · split at he
          · simp only [Option.some.injEq, Prod.mk.injEq] at he
            obtain ⟨-, rfl, rfl⟩ := he
            exact hf.1
          · cases he
        · split at he
          · simp only [Option.some.injEq, Prod.mk.injEq] at he
            obtain ⟨-, rfl, rfl⟩ := he
            exact hf.1
          · simp only [Option.some.injEq, Prod.mk.injEq] at he
            obtain ⟨-, rfl, rfl⟩ := he
            exact hf.1.trans (.push (by have := hf.1.low; have := hf.1.len; omega) _)
      · cases he
    · cases he
  | store n a x =>
    simp only [step] at he
    obtain ⟨⟨H1, l⟩, h, he⟩ := Option.map_eq_some_iff.1 he
    simp only [Prod.mk.injEq] at he
    obtain ⟨-, rfl, rfl⟩ := he
    obtain ⟨o, rfl⟩ := storeA_fr h
    exact .set _ _
  | mkIface t x =>
    simp only [step] at he
    split at he
    · rename_i h
      simp only [Option.some.injEq, Prod.mk.injEq] at he
      obtain ⟨-, rfl, rfl⟩ := he
      exact (freezeV_fr h).1
    · cases he
  | mkMap =>
    simp only [step, Option.some.injEq, Prod.mk.injEq] at he
    obtain ⟨-, rfl, rfl⟩ := he
    exact .push hl _
  | mkSlice es z bytes l c =>
    simp only [step] at he
    repeat' split at he
    all_goals first
      | (simp only [Option.some.injEq, Prod.mk.injEq] at he; obtain ⟨-, rfl, rfl⟩ := he; first | exact .refl _ _ | exact .push hl _)
      | cases he
  | mapUpd kind m k x =>
    simp only [step] at he
    split at he
    · rename_i h
      have hf := (freezeV_fr h).1
      repeat' split at he
      all_goals first
        | (simp only [Option.some.injEq, Prod.mk.injEq] at he; obtain ⟨-, rfl, rfl⟩ := he; exact hf.trans (.set _ _))
        | cases he
    · cases he
  | append es bytes a b =>
    simp only [step] at he
    split at he
    · split at he
      · rename_i h
        have hf := (freezeVs_fr h).1
        have hle : ∀ x, x ≤ low → x ≤ H.length := fun x hx => Nat.le_trans hx hl
        repeat' split at he
        all_goals first
          | (simp only [Option.some.injEq, Prod.mk.injEq] at he; obtain ⟨-, rfl, rfl⟩ := he
             first
               | exact hf
               | exact hf.trans (.push (by have := hf.low; have := hf.len; omega) _)
               | exact hf.trans (.set _ _))
          | cases he
      · cases he
    · cases he
  | copy es a b =>
    simp only [step] at he
    repeat' split at he
    all_goals first
      | (simp only [Option.some.injEq, Prod.mk.injEq] at he; obtain ⟨-, rfl, rfl⟩ := he; first | exact .refl _ _ | exact .set _ _)
      | cases he
  | call raw f args => simp [step] at he
  | fail => simp [step] at he
  | _ =>
    simp only [step] at he
    repeat' split at he
    all_goals first
      | (cases he; done)
      | (cases he; exact .refl _ _)
      | (simp only [Option.some.injEq, Prod.mk.injEq] at he; obtain ⟨-, rfl, rfl⟩ := he; exact .refl _ _)
      | (obtain ⟨_, -, he⟩ := Option.map_eq_some_iff.1 he; simp only [Prod.mk.injEq] at he; obtain ⟨-, rfl, rfl⟩ := he; exact .refl _ _)

/-- What does not look at the heap has the same outcome at each. -/
theorem step_still {op : AOp} (ht : touches op = false) (he : step ev H low op = some (v, H', low')) : H' = H ∧ low' = low ∧ ∀ H2 low2, step ev H2 low2 op = some (v, H2, low2) := by
  cases op <;> first
    | (simp [touches] at ht; done)
    | skip
  all_goals
    simp only [step] at he ⊢
    repeat' split at he
    all_goals first
      | (cases he; done)
      | (simp only [Option.some.injEq, Prod.mk.injEq] at he; obtain ⟨rfl, rfl, rfl⟩ := he; simp_all; done)
      | (obtain ⟨x, hx, he⟩ := Option.map_eq_some_iff.1 he; simp only [Prod.mk.injEq] at he; obtain ⟨rfl, rfl, rfl⟩ := he; simp_all; done)

theorem bnd_congr {ev ev' : Opd → V} {d : Nat} {x : Option Opd} (h : ∀ y ∈ x.toList, ev y = ev' y) : bnd ev d x = bnd ev' d x := by
  cases x with
  | none => rfl
  | some y => simp [bnd, h y (by simp)]

/-- An operation looks at its operands alone. -/
theorem step_congr {ev ev' : Opd → V} {op : AOp} (h : ∀ x ∈ op.operands, ev x = ev' x) : step ev H low op = step ev' H low op := by
  cases op with
  | build z parts =>
    have : (parts.map fun p => ev p.2.2) = parts.map fun p => ev' p.2.2 := List.map_congr_left fun p hp => h _ (by simp only [AOp.operands, List.mem_map]; exact ⟨p, hp, rfl⟩)
    simp only [step, this]
  | lit es z len parts im =>
    have : (parts.map fun p => ev p.2) = parts.map fun p => ev' p.2 := List.map_congr_left fun p hp => h _ (by simp only [AOp.operands, List.mem_map]; exact ⟨p, hp, rfl⟩)
    simp only [step, this]
  | mkFn i a b =>
    have h1 : a.map ev = a.map ev' := List.map_congr_left fun p hp => h _ (by simp [AOp.operands, hp])
    have h2 : b.map ev = b.map ev' := List.map_congr_left fun p hp => h _ (by simp [AOp.operands, hp])
    simp only [step, h1, h2]
  | sliceS x lo hi =>
    have h0 := h x (by simp [AOp.operands])
    have h1 : ∀ d, bnd ev d lo = bnd ev' d lo := fun d => bnd_congr fun y hy => h y (by simp only [AOp.operands, List.mem_cons, List.mem_append]; exact .inr (.inl hy))
    have h2 : ∀ d, bnd ev d hi = bnd ev' d hi := fun d => bnd_congr fun y hy => h y (by simp only [AOp.operands, List.mem_cons, List.mem_append]; exact .inr (.inr hy))
    simp only [step, h0, h1, h2]
  | sliceL es x lo hi mx =>
    have h0 := h x (by simp [AOp.operands])
    have h1 : ∀ d, bnd ev d lo = bnd ev' d lo := fun d => bnd_congr fun y hy => h y (by simp only [AOp.operands, List.mem_cons, List.mem_append]; exact .inr (.inl (.inl hy)))
    have h2 : ∀ d, bnd ev d hi = bnd ev' d hi := fun d => bnd_congr fun y hy => h y (by simp only [AOp.operands, List.mem_cons, List.mem_append]; exact .inr (.inl (.inr hy)))
    have h3 : ∀ d, bnd ev d mx = bnd ev' d mx := fun d => bnd_congr fun y hy => h y (by simp only [AOp.operands, List.mem_cons, List.mem_append]; exact .inr (.inr hy))
    cases mx with
    | none => simp only [step, h0, h1, h2, h3]
    | some m =>
      have h4 := h m (by simp [AOp.operands])
      simp only [step, h0, h1, h2, h3, h4]
  | call raw f args => rfl
  | fail => rfl
  | alloc z => rfl
  | mkMap => rfl
  | _ => simp only [step]; simp only [AOp.operands, List.mem_cons, List.not_mem_nil, or_false, forall_eq_or_imp, forall_eq] at h; simp only [h]

theorem stepC_eq {call : CallT} {op : AOp} (h : ∀ raw f args, op ≠ .call raw f args) : stepC call ev H low op = step ev H low op := by
  cases op <;> first | rfl | exact absurd rfl (h _ _ _)

theorem stepC_congr {call : CallT} {ev ev' : Opd → V} {op : AOp} (h : ∀ x ∈ op.operands, ev x = ev' x) : stepC call ev H low op = stepC call ev' H low op := by
  cases op with
  | call raw f args =>
    have h0 := h f (by simp [AOp.operands])
    have h1 : args.map ev = args.map ev' := List.map_congr_left fun p hp => h _ (by simp [AOp.operands, hp])
    cases raw <;> simp only [stepC, h0, h1]
  | _ => rw [stepC_eq (by simp), stepC_eq (by simp)]; exact step_congr h

def CallFr (call : CallT) : Prop := ∀ (f : V) (args : List V) (H : Heap) (v : V) (H' : Heap) (low' : Nat), call f args H = some (v, H', low') → Fr H H.length H' low'

theorem stepC_fr {call : CallT} {op : AOp} (hc : CallFr call) (hl : low ≤ H.length) (he : stepC call ev H low op = some (v, H', low')) : Fr H low H' low' := by
  cases op with
  | call raw f args =>
    cases raw
    · simp only [stepC] at he
      split at he
      · rename_i vs H1 low1 h1
        have hf := freezeVs_fr h1
        split at he
        · rename_i u H2 l h2
          have hk := hc _ _ _ _ _ _ h2
          split at he
          · cases he; exact .refl _ _
          · cases he; exact hf.1.trans (hk.lift _)
        · cases he
      · cases he
    · simp only [stepC] at he
      split at he
      · rename_i u H2 l h2
        cases he
        exact (hc _ _ _ _ _ _ h2).lift _
      · cases he
  | _ => rw [stepC_eq (by simp)] at he; exact step_fr hl he


theorem put_H (st : St) (d : Option (Nat × Bool)) (v : V) : (st.put d v).H = st.H ∧ (st.put d v).low = st.low ∧ (st.put d v).ro = st.ro := by
  rcases d with _ | ⟨t, b⟩
  · exact ⟨rfl, rfl, rfl⟩
  · cases b <;> exact ⟨rfl, rfl, rfl⟩

/-- From one state of the executor to a later one. -/
def FrS (st st' : St) : Prop := Fr st.H st.low st'.H st'.low ∧ st'.ro = st.ro

theorem FrS.refl (st : St) : FrS st st := ⟨.refl _ _, rfl⟩
theorem FrS.trans {a b c : St} (h : FrS a b) (k : FrS b c) : FrS a c := ⟨h.1.trans k.1, k.2.trans h.2⟩
theorem FrS.bound {a b : St} (h : FrS a b) (hl : a.low ≤ a.H.length) : b.low ≤ b.H.length := by
  have := h.1.low; have := h.1.len; omega

theorem execOps_fr {call : CallT} (hc : CallFr call) : ∀ (ops : List AOper) (st st' : St) (wr wr' : List Bool), st.low ≤ st.H.length → execOps call ops st wr = some (st', wr') → FrS st st'
  | [], st, st', wr, wr', _, he => by
    simp only [execOps, Option.some.injEq, Prod.mk.injEq] at he
    obtain ⟨rfl, -⟩ := he; exact .refl _
  | o :: r, st, st', wr, wr', hl, he => by
    simp only [execOps] at he
    split at he
    · split at he
      · rename_i v H' low' h
        have hf := stepC_fr hc (Nat.le_refl _) h
        have hp := put_H { st with H := H', low := min st.low low' } o.dst v
        have h1 : FrS st ({ st with H := H', low := min st.low low' }.put o.dst v) := ⟨by rw [hp.1, hp.2.1]; exact hf.lift _, hp.2.2⟩
        exact h1.trans (execOps_fr hc r _ _ _ _ (h1.bound hl) he)
      · cases he
    · have hp := put_H st o.dst (.tup [])
      have h1 : FrS st (st.put o.dst (.tup [])) := ⟨by rw [hp.1, hp.2.1]; exact .refl _ _, hp.2.2⟩
      exact h1.trans (execOps_fr hc r _ _ _ _ (h1.bound hl) he)
    · cases he

theorem iter_fr {f : St → Option (X × St)} (hf : ∀ st x st', st.low ≤ st.H.length → f st = some (x, st') → FrS st st') : ∀ (n : Nat) (st : St) (x : X) (st' : St), st.low ≤ st.H.length → iter f n st = some (x, st') → FrS st st'
  | 0, _, _, _, _, he => by cases he
  | n + 1, st, x, st', hl, he => by
    simp only [iter] at he
    split at he
    · rename_i st1 h1
      have a := hf _ _ _ hl h1
      exact a.trans (iter_fr hf n _ _ _ (a.bound hl) he)
    · exact hf _ _ _ hl he

theorem exec_fr {call : CallT} (hc : CallFr call) (n : Nat) : ∀ (c : ACode) (st : St) (x : X) (st' : St), st.low ≤ st.H.length → exec call n c st = some (x, st') → FrS st st'
  | .skip, st, x, st', hl, he => by simp only [exec, Option.some.injEq, Prod.mk.injEq] at he; obtain ⟨-, rfl⟩ := he; exact .refl _
  | .region ops bef, st, x, st', hl, he => by
    simp only [exec] at he
    split at he
    · rename_i st1 wr h1
      have a : FrS { st with tE := [] } st1 := execOps_fr hc _ _ _ _ _ hl h1
      have a' : FrS st st1 := a
      repeat' split at he
      all_goals first
        | (cases he; exact a')
        | cases he
    · cases he
  | .seq a b, st, x, st', hl, he => by
    simp only [exec] at he
    split at he
    · rename_i st1 h1
      have k := exec_fr hc n a _ _ _ hl h1
      exact k.trans (exec_fr hc n b _ _ _ (k.bound hl) he)
    · exact exec_fr hc n a _ _ _ hl he
  | .cond c t e, st, x, st', hl, he => by
    simp only [exec] at he
    split at he
    · exact exec_fr hc n t _ _ _ hl he
    · exact exec_fr hc n e _ _ _ hl he
    · cases he
  | .block id c, st, x, st', hl, he => by
    simp only [exec] at he
    split at he
    · rename_i st1 h1
      have k := exec_fr hc n c _ _ _ hl h1
      split at he <;> (cases he; exact k)
    · exact exec_fr hc n c _ _ _ hl he
  | .loop c, st, x, st', hl, he => by
    simp only [exec] at he
    exact iter_fr (fun st x st' h1 h2 => exec_fr hc n c st x st' h1 h2) n _ _ _ hl he
  | .rangeFunc f ps a b, st, x, st', hl, he => by
    simp only [exec] at he
    split at he
    · cases he
    · split at he
      · rename_i u H1 low1 h1
        have k := hc _ _ _ _ _ _ h1
        split at he
        · split at he
          · cases he
          · cases he
            refine ⟨⟨?_, Nat.min_le_left _ _, fun l h => ?_⟩, rfl⟩
            · have := k.len; simp at this ⊢; omega
            · simp only at h ⊢
              rw [List.getElem?_set_ne (by omega), k.same l (by omega), List.getElem?_append_left (by omega)]
        · cases he
      · cases he
  | .exit id, st, x, st', hl, he => by simp only [exec, Option.some.injEq, Prod.mk.injEq] at he; obtain ⟨-, rfl⟩ := he; exact .refl _
  | .ret, st, x, st', hl, he => by simp only [exec, Option.some.injEq, Prod.mk.injEq] at he; obtain ⟨-, rfl⟩ := he; exact .refl _
  | .fail, st, x, st', hl, he => by simp [exec] at he

theorem finish_fr {fresh : Bool} {H0 : Heap} (h : Fr H0 H0.length H low) (he : finish fresh H0 v H low = some (v', H', low')) : Fr H0 H0.length H' low' := by
  unfold finish at he
  split at he
  · split at he
    · split at he
      · cases he; exact .push (Nat.le_refl _) _
      · cases he
    · cases he
  · split at he
    · rename_i h1
      split at he
      · cases he; exact .refl _ _
      · cases he; exact h.trans (freezeV_fr h1).1
    · cases he

theorem callBody_fr {ex : ACode → St → Option (X × St)} (hx : ∀ c st x st', st.low ≤ st.H.length → ex c st = some (x, st') → FrS st st') {f : AFunc} {args : List V}
    (he : callBody ex f args H = some (v, H', low')) : Fr H H.length H' low' := by
  unfold callBody at he
  split at he
  · split at he
    · rename_i st h1
      have k := (hx _ _ _ _ (Nat.le_refl _) h1).1
      split at he
      · exact finish_fr k he
      · exact finish_fr k he
      · cases he
    · rename_i st h1
      have k := (hx _ _ _ _ (Nat.le_refl _) h1).1
      split at he
      · exact finish_fr k he
      · exact finish_fr k he
      · cases he
    · cases he
  · cases he

theorem yieldBody_fr {ex : ACode → St → Option (X × St)} (hx : ∀ c st x st', st.low ≤ st.H.length → ex c st = some (x, st') → FrS st st') {l : Nat} {args : List V}
    (he : yieldBody ex l args H = some (v, H', low')) : Fr H H.length H' low' := by
  unfold yieldBody at he
  split at he
  · split at he
    · split at he
      · rename_i st h1
        have k := (hx _ _ _ _ (Nat.le_refl _) h1).1
        split at he
        · split at he
          · rename_i x st2 h2
            have k2 := (hx _ _ _ _ (by have q := k.low; have q' := k.len; simp only [List.length_set] at q q' ⊢; omega) h2).1
            split at he
            · cases he
              exact (k.trans (.set _ _)).trans (k2.trans (.set _ _))
            · cases he
          · cases he
        · cases he
      · cases he
    · cases he
  · cases he

theorem callN_fr (tab : Nat → Option Fun) : ∀ (n : Nat), CallFr (callN tab n)
  | 0 => fun f args H v H' low' he => by simp [callN] at he
  | n + 1 => fun f args H v H' low' he => by
    have hx := fun c st x st' (h1 : st.low ≤ st.H.length) h2 => exec_fr (callN_fr tab n) n c st x st' h1 h2
    simp only [callN, callV] at he
    split at he
    · split at he
      · exact callBody_fr hx he
      · split at he
        · obtain ⟨u, -, he⟩ := Option.map_eq_some_iff.1 he
          cases he; exact .refl _ _
        · cases he
      · cases he
    · exact yieldBody_fr hx he
    · cases he

end Go.Abs
