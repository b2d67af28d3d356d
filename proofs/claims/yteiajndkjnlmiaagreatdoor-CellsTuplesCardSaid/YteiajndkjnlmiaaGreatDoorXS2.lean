/- What the functions of package slices compute, at ints. -/
import Derived.Test.YteiajndkjnlmiaaGreatDoorXS1
set_option linter.unusedVariables false
set_option linter.unusedSimpArgs false
namespace Go.Abs.T09
open Go Go.Abs

/-- A slice of ints that is never written. -/
structure VI (v : V) (l : List Int) : Prop where
  sl : slE 1 v = true
  el : el v = l.map (.int .i64)
  lt : l.length < 4611686018427387904

theorem slE_isP {es : Nat} {v : V} (h : slE es v = true) : isP v = true := by cases v <;> simp_all [slE, isP]
theorem VI.isP {v : V} {l : List Int} (h : VI v l) : isP v = true := slE_isP h.sl
theorem VI.get {v : V} {l : List Int} (h : VI v l) {k : Nat} {n : Int} (e : l[k]? = some n) : (Abs.el v)[k]? = some (.int .i64 n) := by rw [h.el]; simp [e]
theorem VI.len {v : V} {l : List Int} (h : VI v l) : (Abs.el v).length = l.length := by rw [h.el]; simp

/-- What an answer of a pure function is. -/
def Ans (f : V) (args : List V) (H : Heap) (v : V) : Prop := callL tab f args H = some (v, H, H.length)

theorem indexFunc_s {xs : V} {ns : List Int} {i : Nat} {fs cs : List V} {p : Int → Bool} {H : Heap} (hx : VI xs ns) (hf : ∀ n ∈ ns, Ans (.fn i fs cs) [.int .i64 n] H (.bool (p n))) :
    Ans (.fn 82 [] []) [xs, .fn i fs cs] H (.int .i64 (match ns.findIdx? p with | some k => (k : Int) | none => -1)) := by
  unfold Ans at hf ⊢
  have key := range_loop (tab := tab) (b := 9) (n := 7) (i := 8) (t := 18) (blk := 1) (ex := 0) (body := F82L0)
    (I := fun k st => st.H = H ∧ st.low = H.length ∧ lookupE st.vE 0 = xs ∧ lookupE st.vE 1 = .fn i fs cs ∧ lookupE st.vE 8 = .int .i64 k ∧ lookupE st.vE 7 = .int .i64 ns.length ∧ ∀ n ∈ ns.take k, p n = false)
    (Q := fun x st => st.H = H ∧ st.low = H.length ∧ ((x = .exit 0 ∧ ns.findIdx? p = none) ∨ (x = .ret ∧ ∃ k, ns.findIdx? p = some k ∧ lookupE st.vE 4 = .int .i64 k)))
    (N := ns.length) hx.lt (by decide) (by decide)
    (fun k st h => ⟨h.2.2.2.2.1, h.2.2.2.2.2.1, by rw [h.1, h.2.1]; exact Nat.le_refl _⟩)
    (by
      rintro k st hk ⟨h1, h2, h3, h4, h5, h6, h7⟩
      obtain ⟨n, hn⟩ : ∃ n, ns[k]? = some n := ⟨_, List.getElem?_eq_getElem hk⟩
      have hmem : n ∈ ns := List.mem_of_getElem? hn
      have hc := hf n hmem
      have hg := hx.get hn
      cases hp : p n with
      | false =>
        refine ⟨.normal, _, by simp [F82L0, callBody, zipE, execL_seq, execL_region, execL_cond, execL_skip, execL_ret, execL_exit, execL_block, execOps, wantedA, S_mv, S_pick, S_bin, S_un, S_call0, S_call1, S_extract, S_nilEq, S_load, S_alloc, S_box, Opd.ev, lookupE, lookE_setE, St.put, binA, unA, boolOf, freezeVs, freezeV, freeze1, isP, isPs, resultsA, resultA, finish, old, olds, flat, movedH_same, Nat.min_self, loadA, readCells, cellsV, h1, h2, h3, h4, h5, h6, S_index, hx.sl, hg, hc, hp]; rfl, ?_⟩
        simp only [true_or, if_true, lookE_setE, h1, h2]
        refine ⟨by simp [h5], by simp, by simp, by simp, by simp [h3], by simp [h4], by simp, by simp [h6], fun m hm => ?_⟩
        rw [List.take_add_one, hn] at hm
        simp at hm
        rcases hm with hm | rfl
        · exact h7 m hm
        · exact hp
      | true =>
        refine ⟨.ret, _, by simp [F82L0, callBody, zipE, execL_seq, execL_region, execL_cond, execL_skip, execL_ret, execL_exit, execL_block, execOps, wantedA, S_mv, S_pick, S_bin, S_un, S_call0, S_call1, S_extract, S_nilEq, S_load, S_alloc, S_box, Opd.ev, lookupE, lookE_setE, St.put, binA, unA, boolOf, freezeVs, freezeV, freeze1, isP, isPs, resultsA, resultA, finish, old, olds, flat, movedH_same, Nat.min_self, loadA, readCells, cellsV, h1, h2, h3, h4, h5, h6, S_index, hx.sl, hg, hc, hp]; rfl, ?_⟩
        simp only [reduceCtorEq, or_self, if_false, h1, h2]
        refine ⟨trivial, trivial, .inr ⟨trivial, k, ?_, by simp [lookE_setE]⟩⟩
        rw [List.findIdx?_eq_some_iff_getElem]
        refine ⟨hk, ?_, fun j hj => ?_⟩
        · have : ns[k] = n := by rw [List.getElem?_eq_getElem hk] at hn; exact Option.some.inj hn
          rw [this]; exact hp
        · have : ns[j] ∈ ns.take k := List.mem_take_iff_getElem.2 ⟨j, by omega, rfl⟩
          simp [h7 _ this])
    (by
      rintro st ⟨h1, h2, h3, h4, h5, h6, h7⟩
      refine ⟨h1, h2, .inl ⟨rfl, ?_⟩⟩
      rw [List.findIdx?_eq_none_iff]
      intro n hn
      exact h7 n (by rw [List.take_length]; exact hn))
  obtain ⟨x, st', h1, h2, h3, h4⟩ := key ns.length 0 { tE := [], vE := [(0, xs), (1, .fn i fs cs), (4, .int .i64 0), (7, .int .i64 ns.length), (8, .int .i64 0)], H := H, low := H.length } (by omega)
    ⟨rfl, rfl, rfl, rfl, rfl, rfl, fun m hm => by simp at hm⟩
  rw [callL_fn, show tab 82 = some (.code F82) from rfl]
  rcases h4 with ⟨rfl, h4⟩ | ⟨rfl, k, h4, h5⟩
  · simp [F82, callBody, zipE, execL_seq, execL_region, execL_cond, execL_skip, execL_ret, execL_exit, execL_block, execOps, wantedA, S_mv, S_pick, S_bin, S_un, S_call0, S_call1, S_extract, S_nilEq, S_load, S_alloc, S_box, Opd.ev, lookupE, setE, St.put, binA, unA, boolOf, freezeVs, freezeV, freeze1, isP, isPs, resultsA, resultA, finish, old, olds, flat, movedH_same, Nat.min_self, loadA, readCells, cellsV, S_len 1, hx.sl, hx.len, h1, h2, h3, h4, lookE_setE]
  · simp [F82, callBody, zipE, execL_seq, execL_region, execL_cond, execL_skip, execL_ret, execL_exit, execL_block, execOps, wantedA, S_mv, S_pick, S_bin, S_un, S_call0, S_call1, S_extract, S_nilEq, S_load, S_alloc, S_box, Opd.ev, lookupE, setE, St.put, binA, unA, boolOf, freezeVs, freezeV, freeze1, isP, isPs, resultsA, resultA, finish, old, olds, flat, movedH_same, Nat.min_self, loadA, readCells, cellsV, S_len 1, hx.sl, hx.len, h1, h2, h3, h4, h5, lookE_setE]

theorem containsFunc_s {xs : V} {ns : List Int} {i : Nat} {fs cs : List V} {p : Int → Bool} {H : Heap} (hx : VI xs ns) (hf : ∀ n ∈ ns, Ans (.fn i fs cs) [.int .i64 n] H (.bool (p n))) :
    Ans (.fn 59 [] []) [xs, .fn i fs cs] H (.bool (ns.any p)) := by
  have hi := indexFunc_s hx hf
  unfold Ans at hi ⊢
  rw [callL_fn, show tab 59 = some (.code F59) from rfl]
  cases hz : ns.findIdx? p with
  | none =>
    have ha : ns.any p = false := by
      rw [List.findIdx?_eq_none_iff] at hz
      rw [List.any_eq_false]; intro x hx'; simp [hz x hx']
    rw [hz] at hi
    simp [F59, callBody, zipE, execL_seq, execL_region, execL_cond, execL_skip, execL_ret, execL_exit, execL_block, execOps, wantedA, S_mv, S_pick, S_bin, S_un, S_call0, S_call1, S_extract, S_nilEq, S_load, S_alloc, S_box, Opd.ev, lookupE, setE, St.put, binA, unA, boolOf, freezeVs, freezeV, freeze1, isP, isPs, resultsA, resultA, finish, old, olds, flat, movedH_same, Nat.min_self, loadA, readCells, cellsV, hx.isP, hi, ha]
  | some k =>
    have ha : ns.any p = true := by
      rw [List.findIdx?_eq_some_iff_getElem] at hz
      obtain ⟨hk, hp, -⟩ := hz
      exact List.any_eq_true.2 ⟨_, List.getElem_mem hk, hp⟩
    rw [hz] at hi
    simp [F59, callBody, zipE, execL_seq, execL_region, execL_cond, execL_skip, execL_ret, execL_exit, execL_block, execOps, wantedA, S_mv, S_pick, S_bin, S_un, S_call0, S_call1, S_extract, S_nilEq, S_load, S_alloc, S_box, Opd.ev, lookupE, setE, St.put, binA, unA, boolOf, freezeVs, freezeV, freeze1, isP, isPs, resultsA, resultA, finish, old, olds, flat, movedH_same, Nat.min_self, loadA, readCells, cellsV, hx.isP, hi, ha]

end Go.Abs.T09
