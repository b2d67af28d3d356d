/- More fuel changes no answer; the executor without a limit. Nothing here speaks of the real memory. -/
import Derived.Test.YteiajndkjnlmiaaGreatDoorXeComp
set_option linter.unusedVariables false
set_option linter.unusedSimpArgs false
namespace Go.Abs

def CallLe (a b : CallT) : Prop := ∀ f args H r, a f args H = some r → b f args H = some r

variable {call call' : CallT}

theorem stepC_mono (h : CallLe call call') {ev : Opd → V} {H : Heap} {low : Nat} {op : AOp} {r : V × Heap × Nat} (he : stepC call ev H low op = some r) : stepC call' ev H low op = some r := by
  cases op with
  | call raw f args =>
    cases raw
    · simp only [stepC] at he ⊢
      split at he
      · rename_i vs H1 low1 h1
        split at he
        · rename_i u H2 l h2
          rw [h _ _ _ _ h2]
          exact he
        · cases he
      · cases he
    · simp only [stepC] at he ⊢
      split at he
      · rename_i u H2 l h2
        rw [h _ _ _ _ h2]
        exact he
      · cases he
  | _ => exact he

theorem execOps_mono (h : CallLe call call') : ∀ (ops : List AOper) (st : St) (wr : List Bool) (r : St × List Bool), execOps call ops st wr = some r → execOps call' ops st wr = some r
  | [], st, wr, r, he => he
  | o :: ops, st, wr, r, he => by
    simp only [execOps] at he ⊢
    split at he
    · rename_i hw
      try simp only [hw]
      split at he
      · rename_i v H' low' h1
        rw [stepC_mono h h1]
        exact execOps_mono h ops _ _ _ he
      · cases he
    · rename_i hw
      try simp only [hw]
      exact execOps_mono h ops _ _ _ he
    · cases he

theorem iter_mono {f f' : St → Option (X × St)} (h : ∀ st r, f st = some r → f' st = some r) : ∀ (n m : Nat) (st : St) (r : X × St), n ≤ m → iter f n st = some r → iter f' m st = some r
  | 0, _, _, _, _, he => by cases he
  | n + 1, 0, _, _, hle, _ => by omega
  | n + 1, m + 1, st, r, hle, he => by
    simp only [iter] at he ⊢
    split at he
    · rename_i st1 h1
      rw [h _ _ h1]
      exact iter_mono h n m _ _ (by omega) he
    · rename_i hne
      rw [h _ _ he]
      split
      · rename_i st' e; cases e; exact absurd he (hne _)
      · rfl

theorem exec_mono (h : CallLe call call') {n m : Nat} (hle : n ≤ m) : ∀ (c : ACode) (st : St) (r : X × St), exec call n c st = some r → exec call' m c st = some r
  | .skip, st, r, he => he
  | .region ops bef, st, r, he => by
    simp only [exec] at he ⊢
    split at he
    · rename_i st1 wr h1
      rw [execOps_mono h _ _ _ _ h1]
      exact he
    · cases he
  | .seq a b, st, r, he => by
    simp only [exec] at he ⊢
    split at he
    · rename_i st1 h1
      rw [exec_mono h hle a _ _ h1]
      exact exec_mono h hle b _ _ he
    · rename_i hne
      rw [exec_mono h hle a _ _ he]
      split
      · rename_i st1 e; cases e; exact absurd he (hne _)
      · rfl
  | .cond c t e, st, r, he => by
    simp only [exec] at he ⊢
    split at he
    · exact exec_mono h hle t _ _ he
    · exact exec_mono h hle e _ _ he
    · cases he
  | .block id c, st, r, he => by
    simp only [exec] at he ⊢
    split at he
    · rename_i id' st1 h1
      rw [exec_mono h hle c _ _ h1]
      exact he
    · rename_i hne
      rw [exec_mono h hle c _ _ he]
      split
      · rename_i id' st1 e; cases e; exact absurd he (hne _ _)
      · rfl
  | .loop c, st, r, he => by
    simp only [exec] at he ⊢
    exact iter_mono (fun st r hr => exec_mono h hle c st r hr) n m st r hle he
  | .rangeFunc f ps a b, st, r, he => by
    simp only [exec] at he ⊢
    split at he
    · cases he
    · rename_i hc
      try rw [if_neg hc]
      split at he
      · rename_i u H1 low1 h1
        rw [h _ _ _ _ h1]
        exact he
      · cases he
  | .exit id, st, r, he => he
  | .ret, st, r, he => he
  | .fail, st, r, he => he

def ExLe (ex ex' : ACode → St → Option (X × St)) : Prop := ∀ c st r, ex c st = some r → ex' c st = some r

theorem callBody_mono {ex ex' : ACode → St → Option (X × St)} (h : ExLe ex ex') {f : AFunc} {args : List V} {H : Heap} {r : V × Heap × Nat} (he : callBody ex f args H = some r) : callBody ex' f args H = some r := by
  unfold callBody at he ⊢
  split at he
  · rename_i hl
    rw [if_pos hl]
    split at he
    · rename_i st h1; rw [h _ _ _ h1]; exact he
    · rename_i st h1; rw [h _ _ _ h1]; exact he
    · cases he
  · cases he

theorem yieldBody_mono {ex ex' : ACode → St → Option (X × St)} (h : ExLe ex ex') {l : Nat} {args : List V} {H : Heap} {r : V × Heap × Nat} (he : yieldBody ex l args H = some r) : yieldBody ex' l args H = some r := by
  unfold yieldBody at he ⊢
  split at he
  · split at he
    · rename_i hl
      simp only [hl, if_true]
      split at he
      · rename_i st h1
        simp only [h _ _ _ h1]
        split at he
        · rename_i h2
          try simp only [h2]
          split at he
          · rename_i h3
            simp only [h _ _ _ h3]
            exact he
          · cases he
        · cases he
      · cases he
    · cases he
  · cases he

theorem callN_step (tab : Nat → Option Fun) : ∀ n, CallLe (callN tab n) (callN tab (n + 1))
  | 0 => fun f args H r he => by simp [callN] at he
  | n + 1 => fun f args H r he => by
    have hx : ExLe (exec (callN tab n) n) (exec (callN tab (n + 1)) (n + 1)) := fun c st r hr => exec_mono (callN_step tab n) (Nat.le_succ n) c st r hr
    show callV tab (callN tab (n + 1)) (n + 1) f args H = some r
    change callV tab (callN tab n) n f args H = some r at he
    unfold callV at he ⊢
    split at he
    · split at he
      · rename_i h1; try simp only [h1]
        exact callBody_mono hx he
      · rename_i h1; try simp only [h1]
        exact he
      · cases he
    · exact yieldBody_mono hx he
    · cases he

theorem callN_mono (tab : Nat → Option Fun) {n : Nat} : ∀ {m : Nat}, n ≤ m → CallLe (callN tab n) (callN tab m)
  | 0, h => by have : n = 0 := by omega
               subst this; exact fun _ _ _ _ h => h
  | m + 1, h => by
    rcases Nat.lt_or_ge n (m + 1) with h1 | h1
    · exact fun f args H r he => callN_step tab m f args H r (callN_mono tab (m := m) (by omega) f args H r he)
    · have : n = m + 1 := by omega
      subst this; exact fun _ _ _ _ h => h

/-! ### without a limit -/

open Classical in
noncomputable def callL (tab : Nat → Option Fun) : CallT := fun f args H => if h : ∃ r n, callN tab n f args H = some r then some h.choose else none

open Classical in
noncomputable def execL (tab : Nat → Option Fun) (c : ACode) (st : St) : Option (X × St) := if h : ∃ r n, exec (callN tab n) n c st = some r then some h.choose else none

variable {tab : Nat → Option Fun}

theorem callL_iff {f : V} {args : List V} {H : Heap} {r : V × Heap × Nat} : callL tab f args H = some r ↔ ∃ n, callN tab n f args H = some r := by
  unfold callL
  constructor
  · intro h
    split at h
    · rename_i hex; cases h; exact hex.choose_spec
    · cases h
  · rintro ⟨n, hn⟩
    have hex : ∃ r n, callN tab n f args H = some r := ⟨r, n, hn⟩
    rw [dif_pos hex]
    obtain ⟨m, hm⟩ := hex.choose_spec
    have a := callN_mono tab (Nat.le_max_left n m) _ _ _ _ hn
    have b := callN_mono tab (Nat.le_max_right n m) _ _ _ _ hm
    rw [a] at b
    exact b.symm

theorem exec_up {n m : Nat} (hle : n ≤ m) {c : ACode} {st : St} {r : X × St} (h : exec (callN tab n) n c st = some r) : exec (callN tab m) m c st = some r := exec_mono (callN_mono tab hle) hle c st r h

theorem execL_iff {c : ACode} {st : St} {r : X × St} : execL tab c st = some r ↔ ∃ n, exec (callN tab n) n c st = some r := by
  unfold execL
  constructor
  · intro h
    split at h
    · rename_i hex; cases h; exact hex.choose_spec
    · cases h
  · rintro ⟨n, hn⟩
    have hex : ∃ r n, exec (callN tab n) n c st = some r := ⟨r, n, hn⟩
    rw [dif_pos hex]
    obtain ⟨m, hm⟩ := hex.choose_spec
    have a := exec_up (Nat.le_max_left n m) hn
    have b := exec_up (Nat.le_max_right n m) hm
    rw [a] at b
    exact b.symm

theorem callN_le_L (n : Nat) : CallLe (callN tab n) (callL tab) := fun _ _ _ _ h => callL_iff.2 ⟨n, h⟩

theorem opt_ext {α : Type} {a b : Option α} (h : ∀ r, a = some r ↔ b = some r) : a = b := by
  cases a with
  | none => cases b with
    | none => rfl
    | some y => exact absurd ((h y).2 rfl) (by simp)
  | some x => exact ((h x).1 rfl).symm

theorem stepC_lim {ev : Opd → V} {H : Heap} {low : Nat} {op : AOp} {r : V × Heap × Nat} : stepC (callL tab) ev H low op = some r ↔ ∃ n, stepC (callN tab n) ev H low op = some r := by
  constructor
  · intro he
    cases op with
    | call raw f args =>
      cases raw
      · simp only [stepC] at he ⊢
        split at he
        · rename_i vs H1 low1 h1
          split at he
          · rename_i u H2 l h2
            obtain ⟨n, hn⟩ := callL_iff.1 h2
            exact ⟨n, by rw [hn]; exact he⟩
          · cases he
        · cases he
      · simp only [stepC] at he ⊢
        split at he
        · rename_i u H2 l h2
          obtain ⟨n, hn⟩ := callL_iff.1 h2
          exact ⟨n, by rw [hn]; exact he⟩
        · cases he
    | _ => exact ⟨0, he⟩
  · rintro ⟨n, hn⟩; exact stepC_mono (callN_le_L n) hn

theorem execOps_lim : ∀ (ops : List AOper) (st : St) (wr : List Bool) (r : St × List Bool), execOps (callL tab) ops st wr = some r → ∃ n, execOps (callN tab n) ops st wr = some r
  | [], st, wr, r, he => ⟨0, he⟩
  | o :: ops, st, wr, r, he => by
    simp only [execOps] at he ⊢
    split at he
    · rename_i hw
      split at he
      · rename_i v H' low' h1
        obtain ⟨n, hn⟩ := stepC_lim.1 h1
        obtain ⟨m, hm⟩ := execOps_lim ops _ _ _ he
        refine ⟨max n m, ?_⟩
        rw [stepC_mono (callN_mono tab (Nat.le_max_left n m)) hn]
        exact execOps_mono (callN_mono tab (Nat.le_max_right n m)) ops _ _ _ hm
      · cases he
    · rename_i hw
      obtain ⟨m, hm⟩ := execOps_lim ops _ _ _ he
      exact ⟨m, hm⟩
    · cases he

/-! ### the equations -/

theorem execL_skip (st : St) : execL tab .skip st = some (.normal, st) := execL_iff.2 ⟨0, rfl⟩
theorem execL_exit (id : Nat) (st : St) : execL tab (.exit id) st = some (.exit id, st) := execL_iff.2 ⟨0, rfl⟩
theorem execL_ret (st : St) : execL tab .ret st = some (.ret, st) := execL_iff.2 ⟨0, rfl⟩

theorem execL_region (ops : List AOper) (bef : Option (List Nat)) (st : St) : execL tab (.region ops bef) st = match execOps (callL tab) ops { st with tE := [] } [] with
    | some (st', wr) => match bef with
      | none => some (.normal, { st' with tE := [] })
      | some b => if inOrder b ops wr then some (.normal, { st' with tE := [] }) else none
    | none => none := by
  refine opt_ext fun r => ?_
  rw [execL_iff]
  constructor
  · rintro ⟨n, hn⟩
    simp only [exec] at hn
    split at hn
    · rename_i st1 wr h1
      rw [execOps_mono (callN_le_L n) _ _ _ _ h1]
      exact hn
    · cases hn
  · intro h
    split at h
    · rename_i st1 wr h1
      obtain ⟨n, hn⟩ := execOps_lim _ _ _ _ h1
      exact ⟨n, by simp only [exec]; rw [hn]; exact h⟩
    · cases h

theorem execL_seq (a b : ACode) (st : St) : execL tab (.seq a b) st = match execL tab a st with
    | some (.normal, st') => execL tab b st'
    | r => r := by
  refine opt_ext fun r => ?_
  rw [execL_iff]
  constructor
  · rintro ⟨n, hn⟩
    simp only [exec] at hn
    split at hn
    · rename_i st1 h1
      rw [execL_iff.2 ⟨n, h1⟩]
      exact execL_iff.2 ⟨n, hn⟩
    · rename_i hne
      rw [execL_iff.2 ⟨n, hn⟩]
      split
      · rename_i st1 e; cases e; exact absurd hn (hne _)
      · rfl
  · intro h
    split at h
    · rename_i st1 h1
      obtain ⟨n, hn⟩ := execL_iff.1 h1
      obtain ⟨m, hm⟩ := execL_iff.1 h
      exact ⟨max n m, by simp only [exec]; rw [exec_up (Nat.le_max_left n m) hn]; exact exec_up (Nat.le_max_right n m) hm⟩
    · rename_i hne
      obtain ⟨n, hn⟩ := execL_iff.1 h
      refine ⟨n, ?_⟩
      simp only [exec]
      rw [hn]
      split
      · rename_i st1 e; cases e; exact absurd h (hne _)
      · rfl

theorem execL_cond (c : Opd) (t e : ACode) (st : St) : execL tab (.cond c t e) st = match c.ev st.tE st.vE with
    | .bool true => execL tab t st
    | .bool false => execL tab e st
    | _ => none := by
  refine opt_ext fun r => ?_
  rw [execL_iff]
  constructor
  · rintro ⟨n, hn⟩
    simp only [exec] at hn
    split at hn
    · rename_i hc
      try simp only [hc]
      exact execL_iff.2 ⟨n, hn⟩
    · rename_i hc
      try simp only [hc]
      exact execL_iff.2 ⟨n, hn⟩
    · cases hn
  · intro h
    split at h
    · rename_i hc
      obtain ⟨n, hn⟩ := execL_iff.1 h
      exact ⟨n, by simp only [exec, hc]; exact hn⟩
    · rename_i hc
      obtain ⟨n, hn⟩ := execL_iff.1 h
      exact ⟨n, by simp only [exec, hc]; exact hn⟩
    · cases h

theorem execL_block (id : Nat) (c : ACode) (st : St) : execL tab (.block id c) st = match execL tab c st with
    | some (.exit id', st') => if id' = id then some (.normal, st') else some (.exit id', st')
    | r => r := by
  refine opt_ext fun r => ?_
  rw [execL_iff]
  constructor
  · rintro ⟨n, hn⟩
    simp only [exec] at hn
    split at hn
    · rename_i h1
      rw [execL_iff.2 ⟨n, h1⟩]
      exact hn
    · rename_i hne
      rw [execL_iff.2 ⟨n, hn⟩]
      split
      · rename_i e; cases e; exact absurd hn (hne _ _)
      · rfl
  · intro h
    split at h
    · rename_i h1
      obtain ⟨n, hn⟩ := execL_iff.1 h1
      exact ⟨n, by simp only [exec]; rw [hn]; exact h⟩
    · rename_i hne
      obtain ⟨n, hn⟩ := execL_iff.1 h
      refine ⟨n, ?_⟩
      simp only [exec]
      rw [hn]
      split
      · rename_i e; cases e; exact absurd h (hne _ _)
      · rfl

theorem iter_le {f : St → Option (X × St)} {n m : Nat} {st : St} {r : X × St} (hle : n ≤ m) (h : iter f n st = some r) : iter f m st = some r := iter_mono (fun _ _ h => h) n m st r hle h

theorem execL_loop (c : ACode) (st : St) : execL tab (.loop c) st = match execL tab c st with
    | some (.normal, st') => execL tab (.loop c) st'
    | r => r := by
  refine opt_ext fun r => ?_
  rw [execL_iff]
  constructor
  · rintro ⟨n, hn⟩
    simp only [exec] at hn
    cases n with
    | zero => cases hn
    | succ n =>
      simp only [iter] at hn
      split at hn
      · rename_i st1 h1
        rw [execL_iff.2 ⟨n + 1, h1⟩]
        exact execL_iff.2 ⟨n + 1, by simp only [exec]; exact iter_le (Nat.le_succ n) hn⟩
      · rename_i hne
        rw [execL_iff.2 ⟨n + 1, hn⟩]
        split
        · rename_i e; cases e; exact absurd hn (hne _)
        · rfl
  · intro h
    split at h
    · rename_i st1 h1
      obtain ⟨n, hn⟩ := execL_iff.1 h1
      obtain ⟨m, hm⟩ := execL_iff.1 h
      simp only [exec] at hm
      refine ⟨max n m + 1, ?_⟩
      simp only [exec, iter]
      rw [exec_up (show n ≤ max n m + 1 by omega) hn]
      exact iter_mono (fun st r hr => exec_up (show m ≤ max n m + 1 by omega) hr) m (max n m) _ _ (Nat.le_max_right n m) hm
    · rename_i hne
      obtain ⟨n, hn⟩ := execL_iff.1 h
      refine ⟨n + 1, ?_⟩
      simp only [exec, iter]
      rw [exec_up (Nat.le_succ n) hn]
      split
      · rename_i e; cases e; exact absurd h (hne _)
      · rfl

theorem execL_range (f : Opd) (ps : List Nat) (a b : ACode) (st : St) : execL tab (.rangeFunc f ps a b) st =
    if (roOk st.H st.ro && isFn (f.ev st.tE st.vE)) = false then none else
    match callL tab (f.ev st.tE st.vE) [.yield st.H.length] (st.H ++ [.loop .ready .normal st.vE ps a b]) with
    | some (_, H', low') => match H'[st.H.length]? with
      | some (.loop ls pend _ _ _ _) => if ls = .busy then none else some (pend, { st with H := H'.set st.H.length .gone, low := min st.low low' })
      | _ => none
    | none => none := by
  refine opt_ext fun r => ?_
  rw [execL_iff]
  constructor
  · rintro ⟨n, hn⟩
    simp only [exec] at hn
    split at hn
    · cases hn
    · rename_i hc
      rw [if_neg hc]
      split at hn
      · rename_i h1
        rw [callN_le_L n _ _ _ _ h1]
        exact hn
      · cases hn
  · intro h
    split at h
    · cases h
    · rename_i hc
      split at h
      · rename_i h1
        obtain ⟨n, hn⟩ := callL_iff.1 h1
        exact ⟨n, by simp only [exec]; rw [if_neg hc, hn]; exact h⟩
      · cases h

theorem callL_fn (i : Nat) (first caps args : List V) (H : Heap) : callL tab (.fn i first caps) args H = match tab i with
    | some (.code fn) => callBody (execL tab) fn (first ++ args ++ caps) H
    | some (.ext spec) => if isPs (first ++ args ++ caps) then (spec (first ++ args ++ caps)).map fun v => (v, H, H.length) else none
    | none => none := by
  refine opt_ext fun r => ?_
  rw [callL_iff]
  constructor
  · rintro ⟨n, hn⟩
    cases n with
    | zero => simp [callN] at hn
    | succ n =>
      simp only [callN, callV] at hn
      split at hn
      · rename_i h1; try simp only [h1]
        exact callBody_mono (ex' := execL tab) (fun c st r h => execL_iff.2 ⟨n, h⟩) hn
      · rename_i h1; try simp only [h1]
        exact hn
      · cases hn
  · intro h
    cases ht : tab i with
    | none => rw [ht] at h; cases h
    | some F =>
      rw [ht] at h
      cases F with
      | ext spec => exact ⟨1, by simp only [callN, callV, ht]; exact h⟩
      | code fn =>
        simp only at h
        unfold callBody at h
        split at h
        · rename_i hl
          split at h
          · rename_i st h1
            obtain ⟨n, hn⟩ := execL_iff.1 h1
            exact ⟨n + 1, by simp only [callN, callV, ht, callBody]; rw [if_pos hl, hn]; exact h⟩
          · rename_i st h1
            obtain ⟨n, hn⟩ := execL_iff.1 h1
            exact ⟨n + 1, by simp only [callN, callV, ht, callBody]; rw [if_pos hl, hn]; exact h⟩
          · cases h
        · cases h

theorem callL_yield (l : Nat) (args : List V) (H : Heap) : callL tab (.yield l) args H = yieldBody (execL tab) l args H := by
  refine opt_ext fun r => ?_
  rw [callL_iff]
  constructor
  · rintro ⟨n, hn⟩
    cases n with
    | zero => simp [callN] at hn
    | succ n => exact yieldBody_mono (fun c st r h => execL_iff.2 ⟨n, h⟩) hn
  · intro h
    unfold yieldBody at h
    split at h
    · rename_i hl
      split at h
      · rename_i hlen
        split at h
        · rename_i st h1
          split at h
          · rename_i h2
            split at h
            · rename_i h3
              obtain ⟨n, hn⟩ := execL_iff.1 h1
              obtain ⟨m, hm⟩ := execL_iff.1 h3
              refine ⟨max n m + 1, ?_⟩
              simp only [callN, callV, yieldBody, hl, hlen, if_true]
              simp only [exec_up (Nat.le_max_left n m) hn, h2, exec_up (Nat.le_max_right n m) hm]
              exact h
            · cases h
          · cases h
        · cases h
      · cases h
    · cases h

end Go.Abs
