/- The tuples rise, one by one, through all of them. -/
import Derived.Test.YteiajndkjnlmiaaGreatDoorXS6
set_option linter.unusedVariables false
set_option linter.unusedSimpArgs false
namespace Go.Abs.T09
open Go Go.Abs

/-- The number that the first places spell. -/
def valP (ds t : List Int) : Nat → Int
  | 0 => 0
  | i + 1 => valP ds t i * (ds[i]?).getD 0 + (t[i]?).getD 0
def prodP (ds : List Int) : Nat → Int
  | 0 => 1
  | i + 1 => prodP ds i * (ds[i]?).getD 0

theorem valP_congr {ds t r : List Int} : ∀ {i : Nat}, (∀ m, m < i → r[m]? = t[m]?) → valP ds r i = valP ds t i
  | 0, _ => rfl
  | i + 1, h => by simp only [valP]; rw [valP_congr fun m hm => h m (by omega), h i (by omega)]

theorem incAt_above (ds : List Int) : ∀ (i : Nat) (t : List Int) (m : Nat), i ≤ m → (incAt ds i t)[m]? = t[m]?
  | 0, t, m, _ => rfl
  | i + 1, t, m, h => by
    simp only [incAt]
    split
    · rw [List.getElem?_set_ne (by omega)]
    · rw [incAt_above ds i _ m (by omega), List.getElem?_set_ne (by omega)]

theorem incAt_val {ds : List Int} (hd : ∀ d ∈ ds, 1 ≤ d) : ∀ (i : Nat) (t : List Int), InR ds t → i ≤ ds.length → valP ds t i + 1 < prodP ds i →
    valP ds (incAt ds i t) i = valP ds t i + 1 ∧ ∃ (j : Nat) (x : Int), j < i ∧ t[j]? = some x ∧ (incAt ds i t)[j]? = some (x + 1) ∧ ∀ m, m < j → (incAt ds i t)[m]? = t[m]?
  | 0, t, _, _, h => by simp [valP, prodP] at h
  | i + 1, t, hR, hi, h => by
    obtain ⟨d, hdi⟩ : ∃ d, ds[i]? = some d := ⟨_, List.getElem?_eq_getElem (by omega)⟩
    have hil : i < t.length := by rw [hR.1]; omega
    obtain ⟨x, hx⟩ : ∃ x, t[i]? = some x := ⟨_, List.getElem?_eq_getElem hil⟩
    have hxd := hR.2 i x d hx hdi
    have hd1 := hd d (List.mem_of_getElem? hdi)
    simp only [valP, prodP, incAt, hdi, hx, Option.getD_some] at h ⊢
    by_cases hlt : x + 1 < d
    · simp only [hlt, if_true]
      refine ⟨?_, i, x, by omega, hx, by rw [List.getElem?_set_self hil], fun m hm => by rw [List.getElem?_set_ne (by omega)]⟩
      rw [valP_congr (r := t.set i (x + 1)) (t := t) fun m hm => by rw [List.getElem?_set_ne (by omega)], List.getElem?_set_self hil]
      simp only [Option.getD_some]; omega
    · simp only [hlt, if_false]
      have hxe : x + 1 = d := by omega
      have hR' : InR ds (t.set i 0) := hR.set fun d' h' => by rw [hdi] at h'; cases h'; omega
      have hv : valP ds (t.set i 0) i = valP ds t i := valP_congr fun m hm => by rw [List.getElem?_set_ne (by omega)]
      have hlow : valP ds (t.set i 0) i + 1 < prodP ds i := by
        rw [hv]
        have e : valP ds t i * d + x + 1 = (valP ds t i + 1) * d := by rw [Int.add_mul]; omega
        rw [e] at h
        exact Int.lt_of_mul_lt_mul_right h (by omega)
      obtain ⟨a1, j, y, b1, b2, b3, b4⟩ := incAt_val hd i (t.set i 0) hR' (by omega) hlow
      have h0 : (incAt ds i (t.set i 0))[i]? = some 0 := by rw [incAt_above ds i _ i (Nat.le_refl _), List.getElem?_set_self hil]
      refine ⟨?_, j, y, by omega, by rw [List.getElem?_set_ne (by omega)] at b2; exact b2, b3, fun m hm => by rw [b4 m hm, List.getElem?_set_ne (by omega)]⟩
      rw [h0, a1, hv]
      simp only [Option.getD_some]
      have : (valP ds t i + 1) * d = valP ds t i * d + d := by rw [Int.add_mul]; omega
      omega

theorem prodP_take (ds : List Int) : ∀ i, i ≤ ds.length → prodP ds i = prodI (ds.take i)
  | 0, _ => by simp [prodP, prodI]
  | i + 1, h => by
    obtain ⟨d, hdi⟩ : ∃ d, ds[i]? = some d := ⟨_, List.getElem?_eq_getElem (by omega)⟩
    rw [prodI_take hdi, ← prodP_take ds i (by omega)]
    simp [prodP, hdi]

theorem tk_val {ds : List Int} (hd : ∀ d ∈ ds, 1 ≤ d) : ∀ k : Nat, (k : Int) < prodI ds → valP ds (tk ds k) ds.length = k
  | 0, _ => by
    have : ∀ i, valP ds (List.replicate ds.length 0) i = 0 := by
      intro i
      induction i with
      | zero => rfl
      | succ i ih =>
        simp only [valP, ih, List.getElem?_replicate]
        split <;> simp
    simpa [tk] using this ds.length
  | k + 1, h => by
    have ih := tk_val hd k (by omega)
    have hp : prodP ds ds.length = prodI ds := by rw [prodP_take ds _ (Nat.le_refl _), List.take_length]
    have := (incAt_val hd ds.length (tk ds k) (tk_inR hd k) (Nat.le_refl _) (by rw [ih, hp]; omega)).1
    simp only [tk]
    rw [this, ih]; omega

/-- Each tuple rises above the one before it. -/
theorem tk_rises {ds : List Int} (hd : ∀ d ∈ ds, 1 ≤ d) {k : Nat} (hk : ((k + 1 : Nat) : Int) < prodI ds) :
    ∃ (j : Nat) (x : Int), j < ds.length ∧ (tk ds k)[j]? = some x ∧ (tk ds (k + 1))[j]? = some (x + 1) ∧ ∀ m, m < j → (tk ds (k + 1))[m]? = (tk ds k)[m]? := by
  have hp : prodP ds ds.length = prodI ds := by rw [prodP_take ds _ (Nat.le_refl _), List.take_length]
  exact (incAt_val hd ds.length (tk ds k) (tk_inR hd k) (Nat.le_refl _) (by rw [tk_val hd k (by omega), hp]; omega)).2

/-! ### slices.Compare -/

theorem compareL_s {a b : V} {t r : List Int} {H : Heap} (ha : VI a t) (hb : VI b r) {j : Nat} {x : Int} (h1 : t[j]? = some x) (h2 : r[j]? = some (x + 1)) (h3 : ∀ m, m < j → r[m]? = t[m]?) :
    Ans (.fn 28 [] []) [a, b] H (.int .i64 (-1)) := by
  unfold Ans
  have hjt : j < t.length := by
    rcases Nat.lt_or_ge j t.length with h | h
    · exact h
    · simp [List.getElem?_eq_none h] at h1
  have hjr : j < r.length := by
    rcases Nat.lt_or_ge j r.length with h | h
    · exact h
    · simp [List.getElem?_eq_none h] at h2
  have key := range_loop (tab := tab) (b := 12) (n := 10) (i := 11) (t := 30) (blk := 1) (ex := 0) (body := F28L0)
    (I := fun k st => st.H = H ∧ st.low = H.length ∧ lookupE st.vE 1 = b ∧ lookupE st.vE 9 = a ∧ lookupE st.vE 11 = .int .i64 k ∧ lookupE st.vE 10 = .int .i64 t.length ∧ k ≤ j)
    (Q := fun x st => x = .ret ∧ st.H = H ∧ st.low = H.length ∧ lookupE st.vE 4 = .int .i64 (-1))
    (N := t.length) ha.lt (by decide) (by decide)
    (fun k st h => ⟨h.2.2.2.2.1, h.2.2.2.2.2.1, by rw [h.1, h.2.1]; exact Nat.le_refl _⟩)
    (by
      rintro k st hk ⟨q1, q2, q3, q4, q5, q6, q7⟩
      obtain ⟨y, hy⟩ : ∃ y, t[k]? = some y := ⟨_, List.getElem?_eq_getElem hk⟩
      obtain ⟨z, hz⟩ : ∃ z, r[k]? = some z := ⟨_, List.getElem?_eq_getElem (by omega)⟩
      have hga := ha.get hy
      have hgb := hb.get hz
      have hkr : ¬ (k : Int) ≥ r.length := by omega
      have hkr' : ¬ (r.length : Int) ≤ k := by omega
      have hcmp := compare_s y z H
      have hkn : (0 : Int) ≤ (k : Int) := by omega
      by_cases hkj : k = j
      · subst hkj
        rw [h1] at hy; cases hy
        rw [h2] at hz; cases hz
        have hc1 : cmpI x (x + 1) = -1 := by unfold cmpI; rw [if_pos (by omega)]
        rw [hc1] at hcmp
        refine ⟨.ret, _, by simp [F28L0, callBody, zipE, execL_seq, execL_region, execL_cond, execL_skip, execL_ret, execL_exit, execL_block, execOps, wantedA, S_mv, S_pick, S_bin, S_un, S_call0, S_call1, S_extract, S_nilEq, S_load, S_alloc, S_box, Opd.ev, lookupE, lookE_setE, St.put, binA, unA, boolOf, freezeVs, freezeV, freeze1, isP, isPs, resultsA, resultA, finish, old, olds, flat, movedH_same, Nat.min_self, loadA, readCells, cellsV, q1, q2, q3, q4, q5, q6, S_index, S_len 1, ha.sl, hb.sl, hb.len, hga, hgb, hkr, hkr', hcmp]; rfl, ?_⟩
        simp only [reduceCtorEq, or_self, if_false, q1, q2]
        exact ⟨trivial, trivial, by simp, by simp [lookE_setE]⟩
      · have hyz : y = z := by
          have := h3 k (by omega)
          rw [hy, hz] at this; exact (Option.some.inj this).symm
        subst hyz
        have hc0 : cmpI y y = 0 := by unfold cmpI; simp
        rw [hc0] at hcmp
        refine ⟨.normal, _, by simp [F28L0, callBody, zipE, execL_seq, execL_region, execL_cond, execL_skip, execL_ret, execL_exit, execL_block, execOps, wantedA, S_mv, S_pick, S_bin, S_un, S_call0, S_call1, S_extract, S_nilEq, S_load, S_alloc, S_box, Opd.ev, lookupE, lookE_setE, St.put, binA, unA, boolOf, freezeVs, freezeV, freeze1, isP, isPs, resultsA, resultA, finish, old, olds, flat, movedH_same, Nat.min_self, loadA, readCells, cellsV, q1, q2, q3, q4, q5, q6, S_index, S_len 1, ha.sl, hb.sl, hb.len, hga, hgb, hkr, hkr', hcmp]; rfl, ?_⟩
        simp only [true_or, if_true, lookE_setE, q1, q2]
        exact ⟨by simp [q5], by simp, by simp, by simp, by simp [q3], by simp [q4], by simp, by simp [q6], by omega⟩)
    (by
      rintro st ⟨q1, q2, q3, q4, q5, q6, q7⟩
      omega)
  obtain ⟨x', st', h4, rfl, h5, h6, h7⟩ := key t.length 0 { tE := [], vE := [(0, a), (1, b), (4, .int .i64 0), (9, a), (10, .int .i64 t.length), (11, .int .i64 0)], H := H, low := H.length } (by omega)
    ⟨rfl, rfl, rfl, rfl, rfl, rfl, Nat.zero_le _⟩
  rw [callL_fn, show tab 28 = some (.code F28) from rfl]
  simp [F28, callBody, zipE, execL_seq, execL_region, execL_cond, execL_skip, execL_ret, execL_exit, execL_block, execOps, wantedA, S_mv, S_pick, S_bin, S_un, S_call0, S_call1, S_extract, S_nilEq, S_load, S_alloc, S_box, Opd.ev, lookupE, setE, St.put, binA, unA, boolOf, freezeVs, freezeV, freeze1, isP, isPs, resultsA, resultA, finish, old, olds, flat, movedH_same, Nat.min_self, loadA, readCells, cellsV, S_len 1, ha.sl, ha.len, h4, h5, h6, h7]
end Go.Abs.T09
