/- From the arguments' reading to the executor, and back. -/
import Derived.Test.YteiajndkjnlmiaaGreatDoorXT09T
import Derived.Test.YteiajndkjnlmiaaGreatDoorXeMono
import Derived.Test.YteiajndkjnlmiaaGreatDoorCards
import Derived.Test.YteiajndkjnlmiaaGreatDoorTie
import Derived.WalkKit
import Derived.ProofKit
import Derived.OpenShut
import Derived.ChangeSlices
import Derived.ChangeStays
import Derived.SizedLaws
import Derived.Deep.DeepHandedRow
import Derived.Deep.DeepLaidRun
import Derived.Lib.LaidTab
set_option linter.unusedVariables false
set_option linter.unusedSimpArgs false
namespace Go.Abs.T09
open Go Go.Abs Go.Proofs
set_option maxRecDepth 100000

/-- At the start: every block stands, and none is an object of the executor's. -/
def G0 (W : World) : Gh := ⟨fun _ => none, fun b => b < W.heap.size⟩

theorem start_rel (W : World) : RelH (C fun b => W.heap[b]?) id (G0 W) [] W where
  obj l h e := by cases e
  inj l l' h h' e := by cases e
  blk l h e := by cases e
  imm b hb := ⟨hb, fun l h e => by cases e⟩
  fzI l h e := by cases e
  glob b o h := ⟨by
    rcases Nat.lt_or_ge b W.heap.size with q | q
    · exact q
    · simp [C, Array.getElem?_eq_none q] at h, h⟩

/-- What was there is as it was. -/
theorem old_kept {W w' : World} {G' : Gh} {H' : Heap} (hR : RelH (C fun b => W.heap[b]?) id G' H' w') {b : Nat} (hb : b < W.heap.size) : w'.heap[b]? = W.heap[b]? := by
  have h : W.heap[b]? = some W.heap[b] := by simp [hb]
  rw [(hR.glob b _ h).2, h]

theorem cell_old {W w' : World} {G' : Gh} {H' : Heap} (hR : RelH (C fun b => W.heap[b]?) id G' H' w') {b off : Nat} (hb : b < W.heap.size) : w'.cell? ⟨b, off, none⟩ = W.cell? ⟨b, off, none⟩ := by
  unfold World.cell?; rw [old_kept hR hb]

theorem kept_of {W w' : World} {G' : Gh} {H' : Heap} (hR : RelH (C fun b => W.heap[b]?) id G' H' w') (ho : w'.os = W.os) (hp : w'.output = W.output) (may : MemPlace → Prop) : W.keptBut w' may := by
  refine ⟨ho, hp, fun i hi => ?_⟩
  rw [old_kept hR hi]
  cases h : W.heap[i]? with
  | none => simp
  | some o => cases o <;> simp

theorem laid_mem {P : Program} {w : World} {n : String} {d : DataW Unit} : ∀ {l : List (String × DataW Unit)} {ps : List MemPlace}, DataW.LaidVars P w l ps → (n, d) ∈ l →
    ∃ g t cs fuel p, P.globalNamed n = some g ∧ (P.globals[g]?).map (·.type) = some t ∧ w.var? P n = some cs ∧ DataW.trod (fun _ => ()) P w 0 (fun _ => true) false fuel t cs.toList = some (d, p)
  | [], _, _, h => by cases h
  | (m, e) :: r, ps, h, hm => by
    obtain ⟨g, t, cs, fuel, p, q, h1, h2, h3, h4, h5, -⟩ := h
    rcases List.mem_cons.1 hm with hm | hm
    · cases hm; exact ⟨g, t, cs, fuel, p, h1, h2, h3, h4⟩
    · exact laid_mem h5 hm

theorem tabIs_of_mem {P : Program} {W : World} {name : String} {k : IntKind} {zs : List Int} {l : List (String × DataW Unit)} {g : Nat} {t e : TypeId} {n : Nat}
    (hg : P.globalNamed name = some g) (hty : (P.globals[g]?).map (·.type) = some t) (ht : P.underlying t = some (.array n e)) (he : P.underlying e = some (.int k)) (hce : P.cellsOf e = 1) (hct : P.cellsOf t = n)
    (h : laidMet P l W) (hm : (name, Lib.tabData k zs) ∈ l) : Lib.TabIs P W name k zs := by
  obtain ⟨ps, hv, -⟩ := h
  obtain ⟨g', t', cs, fuel, p, hg', ht', hvar, hd⟩ := laid_mem hv hm
  obtain rfl := Option.some.inj (hg.symm.trans hg')
  obtain rfl := Option.some.inj (hty.symm.trans ht')
  unfold Lib.TabIs
  rw [hvar, ← Lib.cells_of_tab ht he hce hct hd]

theorem tabIs_old {W w' : World} {G' : Gh} {H' : Heap} (hR : RelH (C fun b => W.heap[b]?) id G' H' w') {name : String} {k : IntKind} {zs : List Int} (h : Lib.TabIs Tryz.prog W name k zs) : Lib.TabIs Tryz.prog w' name k zs := by
  unfold Lib.TabIs World.var? at h ⊢
  cases hg : Tryz.prog.globalNamed name with
  | none => rw [hg] at h; cases h
  | some g =>
    rw [hg] at h
    simp only [Option.bind_some] at h ⊢
    have hb : g < W.heap.size := by
      rcases Nat.lt_or_ge g W.heap.size with q | q
      · exact q
      · rw [Array.getElem?_eq_none q] at h; cases h
    rw [old_kept hR hb]; exact h

/-! ### the arguments -/

section
variable {W : World} {H : Type} {enc : TypeId × Value → H}

theorem not_agg {t e : TypeId} (ht : Tryz.prog.underlying t = some (.slice e)) {b : Nat} {v : Value} (hval : Value.okWide Tryz.prog W .any b t v) : v.cells.toList = [v] := by
  unfold Value.okWide at hval
  rw [ht] at hval
  simp only [Cell.okWide, ht] at hval
  cases v <;> first | rfl | (simp [Cell.ok, ht] at hval)

/-- A slice of ints that came in. -/
theorem open_vi {t e : TypeId} (ht : Tryz.prog.underlying t = some (.slice e)) (he : Tryz.prog.underlying e = some (.int .i64)) (hc : Tryz.prog.cellsOf e = 1) {b : Nat} {v : Value} (hval : Value.okWide Tryz.prog W .any b t v)
    {d : DataW H} {p : List MemPlace} {held : Bool} (hd : DataW.Trod enc Tryz.prog W 0 (fun _ => true) held t v d p) (hlen : ∀ elems spare, d = .slice elems spare → elems.length < 4611686018427387904) :
    ∃ (sv : V) (l : List Int), PRel W (G0 W).I sv v ∧ slE 1 sv = true ∧ el sv = l.map (.int .i64) ∧ l.length < 4611686018427387904 := by
  obtain ⟨fuel, hd⟩ := hd
  rw [not_agg ht hval] at hd
  rcases ChangeShapes.open_ints ht he hc hd with ⟨hcs, -⟩ | ⟨a, len, cap, zs, hcs, -, hl, -, hz, hx, hcell, -⟩
  · simp only [List.cons.injEq, and_true] at hcs
    subst hcs
    exact ⟨.nil0, [], .nil0, rfl, rfl, by decide⟩
  · simp only [List.cons.injEq, and_true] at hcs
    subst hcs
    simp only [if_true] at hz
    have hlz : len ≤ zs.length := by omega
    have hx1 : d = .slice (ChangeShapes.lits .i64 (zs.take len)) (ChangeShapes.lits .i64 (zs.drop len)) := by
      have := congrArg Prod.fst hx; exact this
    have hll := hlen _ _ hx1
    have hll' : len < 4611686018427387904 := by
      simp [ChangeShapes.lits] at hll; omega
    have htl : (zs.take len).length = len := by rw [List.length_take]; omega
    refine ⟨.list 1 ((zs.take len).map (.int .i64)), zs.take len, ?_, rfl, rfl, by omega⟩
    cases hlen0 : len with
    | zero => simp only [List.take_zero, List.map_nil]; exact .list0 1 a cap
    | succ n =>
      rw [← hlen0]
      have h0 := hcell 0 (by omega)
      have hspot : a.spot = none ∧ a.block < W.heap.size := by
        unfold World.cell? at h0
        split at h0
        · rename_i c e f hh
          split at h0
          · cases h0
          · rename_i hs
            refine ⟨by simpa [Addr.add] using hs, ?_⟩
            rcases Nat.lt_or_ge a.block W.heap.size with q | q
            · exact q
            · have : W.heap[(a.add 0).block]? = none := Array.getElem?_eq_none q
              rw [this] at hh; cases hh
        · cases h0
      obtain ⟨ab, ao, asp⟩ := a
      obtain ⟨rfl, hb⟩ := hspot
      have hlm : ((zs.take len).map (V.int .i64)).length = len := by rw [List.length_map, htl]
      have key : PRel W (G0 W).I (.list 1 ((zs.take len).map (.int .i64))) (.slice (some ⟨ab, ao, none⟩) ((zs.take len).map (V.int .i64)).length cap) := by
        refine .list 1 _ ab ao cap ((zs.take len).map (Value.int .i64)) hb ?_ (fun d hd => ?_) ?_ (by rw [hlm]; exact hl)
        · intro j x hj
          rw [List.getElem?_map, List.getElem?_take] at hj
          split at hj
          · rename_i hjl
            cases hzj : zs[j]? with
            | none => rw [hzj] at hj; cases hj
            | some z =>
              rw [hzj] at hj
              cases hj
              have := hcell j (by omega)
              rw [List.getD_eq_getElem?_getD, hzj] at this
              by_cases hj0 : j = 0
              · subst hj0; simpa [Addr.add] using this
              · simpa [Addr.add, hj0] using this
          · cases hj
        · obtain ⟨z, -, rfl⟩ := List.mem_map.1 hd; rfl
        · generalize zs.take len = ys
          induction ys with
          | nil => exact .nil
          | cons y ys ih => exact .cons _ _ _ _ (.int .i64 y) ih
      rw [hlm] at key
      exact key

theorem bytes_pos {l : Nat} {n : Nat} (h : l * 8 ≤ reachBytes) : l < 4611686018427387904 := by
  have := reachBytes_lt
  omega

theorem stays_all {w' : World} {T : TypeId → Prop} (K : Kids Tryz.prog T) (hsz : ∀ {t e : TypeId}, T t → Tryz.prog.underlying t = some (.slice e) → 0 < Tryz.prog.cellsOf e) {sp' : Nat → Bool} :
    ∀ {ts : List TypeId} {vs : List Value} {ds : List (DataW H)} {p : List MemPlace}, (∀ t ∈ ts, T t) → DataW.TrodAll enc Tryz.prog W 0 (fun _ => true) true ts vs ds p → (∀ q ∈ p, W.sameAt w' q) → (∀ q ∈ p, sp' q.block = true) →
      DataW.TrodAll enc Tryz.prog w' 0 sp' true ts vs ds p
  | [], vs, ds, p, _, h, _, _ => by
    obtain ⟨rfl, rfl, rfl⟩ := ChangeShapes.trodAll_nil h
    rfl
  | t :: ts, vs, ds, p, hT, h, hs, hp => by
    obtain ⟨v, vs', d, ds', a, b, rfl, rfl, rfl, ⟨fuel, h1⟩, h2⟩ := ChangeShapes.trodAll_cons h
    refine ⟨a, b, ⟨fuel, DataW.trod_stays K hsz (fun h => by cases h) (hT t (by simp)) h1 (fun q hq => hs q (by simp [hq])) (fun q hq => hp q (by simp [hq]))⟩, stays_all K hsz (fun u hu => hT u (by simp [hu])) h2 (fun q hq => hs q (by simp [hq])) (fun q hq => hp q (by simp [hq])), rfl⟩

end

set_option maxRecDepth 100000 in
theorem laidOut : laidOutB Tryz.prog = true := by kernel_rfl
theorem rowed : mapsRowed Tryz.prog = true := by kernel_rfl
theorem kids : Kids Tryz.prog (· < Tryz.prog.types.size) := kids_rows laidOut rowed
theorem slicesB : ((List.range Tryz.prog.types.size).all fun t => match Tryz.prog.underlying t with | some (.slice e) => decide (0 < Tryz.prog.cellsOf e) | _ => true) = true := by kernel_rfl
theorem slices_pos {t e : TypeId} (h : t < Tryz.prog.types.size) (hu : Tryz.prog.underlying t = some (.slice e)) : 0 < Tryz.prog.cellsOf e := by
  have := List.all_eq_true.1 slicesB t (List.mem_range.2 h)
  rw [hu] at this
  simpa using this

theorem sameAt_old {W w' : World} {G' : Gh} {H' : Heap} (hR : RelH (C fun b => W.heap[b]?) id G' H' w') {q : MemPlace} (hb : q.block < W.heap.size) : W.sameAt w' q := by
  cases q with
  | cell b off => exact cell_old hR hb
  | map b => exact old_kept hR hb

theorem frozen_old {W w' : World} {G' : Gh} {H' : Heap} (hR : RelH (C fun b => W.heap[b]?) id G' H' w') {a : Addr} (hb : a.block < W.heap.size) : w'.frozen? a = W.frozen? a := by
  unfold World.frozen?; rw [old_kept hR hb]
end Go.Abs.T09
