/- How the relation between heap and memory lives on: a new object, a written object, a moved row, a frozen row. -/
import Derived.Test.YteiajndkjnlmiaaGreatDoorXeRel
import Derived.Laws.Cells
set_option linter.unusedVariables false
set_option linter.unusedSimpArgs false
namespace Go.Abs
open Go
variable {C : Ctx} {fid : Nat → Nat} {w w' : World} {G G' : Gh} {H : Heap}

def upd (β : Nat → Option Home) (l : Nat) (h : Home) : Nat → Option Home := fun x => if x = l then some h else β x

theorem upd_same (β : Nat → Option Home) (l : Nat) (h : Home) : upd β l h l = some h := by simp [upd]
theorem upd_other {β : Nat → Option Home} {l x : Nat} {h : Home} (hx : x ≠ l) : upd β l h x = β x := by simp [upd, hx]

theorem RelH.lt (hR : RelH C fid G H w) {l : Nat} {h : Home} (hb : G.β l = some h) : l < H.length := by
  obtain ⟨o, ho, -⟩ := hR.obj l h hb
  rcases Nat.lt_or_ge l H.length with h' | h'
  · exact h'
  · simp [List.getElem?_eq_none h'] at ho

theorem RelH.none (hR : RelH C fid G H w) {l : Nat} (hl : H.length ≤ l) : G.β l = none := by
  cases hb : G.β l with
  | none => rfl
  | some h => exact absurd (hR.lt hb) (by omega)

theorem alloc_old {o : Obj} {b : Nat} (hb : b < w.heap.size) : (w.alloc o).heap[b]? = w.heap[b]? := by
  show (w.heap.push o)[b]? = _
  rw [Array.getElem?_push, if_neg (by omega)]
theorem alloc_new (w : World) (o : Obj) : (w.alloc o).heap[w.heap.size]? = some o := by
  show (w.heap.push o)[_]? = _
  simp

theorem homes_upd_new {l : Nat} (hn : G.β l = none) (h : Home) : HomesLe G.β (upd G.β l h) := fun x h0 hb => by
  have : x ≠ l := fun e => by subst e; rw [hn] at hb; cases hb
  exact ⟨h0, by rw [upd_other this]; exact hb, Nat.le_refl _, id, fun _ => ⟨rfl, rfl⟩, fun _ => rfl⟩

/-- A world whose heap is the same. -/
theorem RelH.sameHeap (hR : RelH C fid G H w) (h : w'.heap = w.heap) : RelH C fid G H w' where
  obj l x hb := by
    obtain ⟨o, ho, hr⟩ := hR.obj l x hb
    exact ⟨o, ho, hr.mono (.refl _) (fun b hb => ⟨hb, by rw [h]⟩) (by rw [h])⟩
  inj := hR.inj
  blk l x hb := by rw [h]; exact hR.blk l x hb
  imm b hb := by rw [h]; exact hR.imm b hb
  fzI := hR.fzI
  glob b o hg := by rw [h]; exact hR.glob b o hg

theorem Ext.sameHeap (h : w'.heap = w.heap) (ho : w'.os = w.os) (ht : w'.tape = w.tape) (hp : w'.output = w.output) (m n : Nat) : Ext G w G w' m n :=
  ⟨by rw [h]; exact Nat.le_refl _, ho, ht, hp, fun _ _ _ => by rw [h], .refl _, fun _ h hb => .inl ⟨h, hb, .inl rfl⟩, fun _ h => h, fun _ h => .inl h⟩

/-- A new object, in a new block. -/
theorem RelH.push (hR : RelH C fid G H w) (o : AObj) (ob : Obj) (tag csz : Nat)
    (ho : ORel C fid ⟨upd G.β H.length ⟨w.heap.size, tag, csz, false⟩, G.I⟩ (w.alloc ob) ⟨w.heap.size, tag, csz, false⟩ o) :
    RelH C fid ⟨upd G.β H.length ⟨w.heap.size, tag, csz, false⟩, G.I⟩ (H ++ [o]) (w.alloc ob) := by
  have hn := hR.none (Nat.le_refl H.length)
  have hle := homes_upd_new hn ⟨w.heap.size, tag, csz, false⟩
  refine ⟨fun l h hb => ?_, fun l l' h h' e e' q => ?_, fun l h hb => ?_, fun b hb => ?_, fun l h hb hf => ?_, fun b o hg => ⟨(hR.glob b o hg).1, by rw [alloc_old (hR.imm b (hR.glob b o hg).1).1]; exact (hR.glob b o hg).2⟩⟩
  · by_cases hl : l = H.length
    · subst hl
      simp only [upd_same] at hb; cases hb
      exact ⟨o, by simp, ho⟩
    · simp only [upd_other hl] at hb
      obtain ⟨o', e', hr⟩ := hR.obj l h hb
      have := hR.lt hb
      refine ⟨o', by rw [List.getElem?_append_left this]; exact e', hr.mono (G' := ⟨upd G.β H.length _, G.I⟩) hle (fun b hb => ⟨hb, alloc_old (hR.imm b hb).1⟩) (alloc_old (hR.blk l h hb))⟩
  · by_cases hl : l = H.length <;> by_cases hl' : l' = H.length
    · rw [hl, hl']
    · subst hl; simp only [upd_same] at e; cases e
      simp only [upd_other hl'] at e'
      have := hR.blk l' h' e'; simp only at q; omega
    · subst hl'; simp only [upd_same] at e'; cases e'
      simp only [upd_other hl] at e
      have := hR.blk l h e; simp only at q; omega
    · simp only [upd_other hl] at e; simp only [upd_other hl'] at e'
      exact hR.inj l l' h h' e e' q
  · rw [World.size_alloc]
    by_cases hl : l = H.length
    · subst hl; simp only [upd_same] at hb; cases hb; simp
    · simp only [upd_other hl] at hb; have := hR.blk l h hb; omega
  · have hi := hR.imm b hb
    refine ⟨by rw [World.size_alloc]; omega, fun l h e q => ?_⟩
    by_cases hl : l = H.length
    · subst hl; simp only [upd_same] at e; cases e; simp only at q; omega
    · simp only [upd_other hl] at e; exact hi.2 l h e q
  · by_cases hl : l = H.length
    · subst hl; simp only [upd_same] at hb; cases hb; cases hf
    · simp only [upd_other hl] at hb; exact hR.fzI l h hb hf

theorem Ext.push (hR : RelH C fid G H w) (ob : Obj) (tag csz m : Nat) :
    Ext G w ⟨upd G.β H.length ⟨w.heap.size, tag, csz, false⟩, G.I⟩ (w.alloc ob) m H.length where
  size := by simp
  os := rfl
  tape := rfl
  output := rfl
  keep b hb _ := alloc_old hb
  homes := homes_upd_new (hR.none (Nat.le_refl _)) _
  newH l h hb := by
    by_cases hl : l = H.length
    · subst hl; simp only [upd_same] at hb; cases hb; exact .inr ⟨Nat.le_refl _, Nat.le_refl _⟩
    · simp only [upd_other hl] at hb; exact .inl ⟨h, hb, .inl rfl⟩
  imm _ h := h
  newI _ h := .inl h

/-- An object is written where it lies. -/
theorem RelH.write (hR : RelH C fid G H w) {l : Nat} {h h' : Home} (hb : G.β l = some h) (hf : h.fz = false) (hb' : h'.b = h.b) (hf' : h'.fz = false)
    (htag : h.tag ≤ h'.tag) (hz : h.tag = 0 → h'.tag = 0) (hcs : h'.csz = h.csz) (hs : w'.heap.size = w.heap.size)
    (hkeep : ∀ b, b ≠ h.b → w'.heap[b]? = w.heap[b]?) (o : AObj) (ho : ORel C fid ⟨upd G.β l h', G.I⟩ w' h' o) :
    RelH C fid ⟨upd G.β l h', G.I⟩ (H.set l o) w' := by
  have hlt := hR.lt hb
  have hni : ∀ b, G.I b → b ≠ h.b := fun b hi e => by have := (hR.imm b hi).2 l h hb e.symm; rw [hf] at this; cases this
  have hle : HomesLe G.β (upd G.β l h') := fun x h0 e => by
    by_cases hx : x = l
    · subst hx; rw [hb] at e; cases e
      exact ⟨h', upd_same _ _ _, htag, hz, fun _ => ⟨hb', hcs⟩, fun q => by rw [hf] at q; cases q⟩
    · exact ⟨h0, by rw [upd_other hx]; exact e, Nat.le_refl _, id, fun _ => ⟨rfl, rfl⟩, fun _ => rfl⟩
  refine ⟨fun x h0 e => ?_, fun x y h1 h2 e1 e2 q => ?_, fun x h0 e => ?_, fun b hi => ?_, fun x h0 e q => ?_, fun b o hg => ⟨(hR.glob b o hg).1, by rw [hkeep b (hni b (hR.glob b o hg).1)]; exact (hR.glob b o hg).2⟩⟩
  · by_cases hx : x = l
    · subst hx; simp only [upd_same] at e; cases e
      exact ⟨o, by simp [hlt], ho⟩
    · simp only [upd_other hx] at e
      obtain ⟨o', e', hr⟩ := hR.obj x h0 e
      have hne : h0.b ≠ h.b := fun q => hx (hR.inj x l h0 h e hb q)
      exact ⟨o', by rw [List.getElem?_set_ne (Ne.symm hx)]; exact e', hr.mono (G' := ⟨upd G.β l _, G.I⟩) hle (fun b hi => ⟨hi, hkeep b (hni b hi)⟩) (hkeep _ hne)⟩
  · by_cases hx : x = l <;> by_cases hy : y = l
    · rw [hx, hy]
    · subst hx; simp only [upd_same] at e1; cases e1; simp only [upd_other hy] at e2
      exact hR.inj x y h h2 hb e2 (hb' ▸ q)
    · subst hy; simp only [upd_same] at e2; cases e2; simp only [upd_other hx] at e1
      exact hR.inj x y h1 h e1 hb (hb' ▸ q)
    · simp only [upd_other hx] at e1; simp only [upd_other hy] at e2
      exact hR.inj x y h1 h2 e1 e2 q
  · rw [hs]
    by_cases hx : x = l
    · subst hx; simp only [upd_same] at e; cases e; rw [hb']; exact hR.blk x h hb
    · simp only [upd_other hx] at e; exact hR.blk x h0 e
  · refine ⟨by rw [hs]; exact (hR.imm b hi).1, fun x h0 e q => ?_⟩
    by_cases hx : x = l
    · subst hx; simp only [upd_same] at e; cases e
      exact absurd (q.symm.trans hb') (hni b hi)
    · simp only [upd_other hx] at e; exact (hR.imm b hi).2 x h0 e q
  · by_cases hx : x = l
    · subst hx; simp only [upd_same] at e; cases e; rw [hf'] at q; cases q
    · simp only [upd_other hx] at e; exact hR.fzI x h0 e q

theorem Ext.write (_hR : RelH C fid G H w) {l : Nat} {h h' : Home} (hb : G.β l = some h) (hf : h.fz = false) (hb' : h'.b = h.b)
    (htag : h.tag ≤ h'.tag) (hz : h.tag = 0 → h'.tag = 0) (hcs : h'.csz = h.csz) (hs : w'.heap.size = w.heap.size)
    (hkeep : ∀ b, b ≠ h.b → w'.heap[b]? = w.heap[b]?) (hos : w'.os = w.os) (ht : w'.tape = w.tape) (hp : w'.output = w.output) :
    Ext G w ⟨upd G.β l h', G.I⟩ w' l H.length where
  size := by rw [hs]; exact Nat.le_refl _
  os := hos
  tape := ht
  output := hp
  keep b _ k := hkeep b fun e => by
    rcases k l h hb e.symm with q | q
    · rw [hf] at q; cases q
    · omega
  homes x h0 e := by
    by_cases hx : x = l
    · subst hx; rw [hb] at e; cases e
      exact ⟨h', upd_same _ _ _, htag, hz, fun _ => ⟨hb', hcs⟩, fun q => by rw [hf] at q; cases q⟩
    · exact ⟨h0, by simp only [upd_other hx]; exact e, Nat.le_refl _, id, fun _ => ⟨rfl, rfl⟩, fun _ => rfl⟩
  newH x h0 e := by
    by_cases hx : x = l
    · subst hx; simp only [upd_same] at e; cases e; exact .inl ⟨h, hb, .inl hb'.symm⟩
    · simp only [upd_other hx] at e; exact .inl ⟨h0, e, .inl rfl⟩
  imm _ h := h
  newI _ h := .inl h

/-- A row moves into a new block. -/
theorem RelH.move (hR : RelH C fid G H w) {l : Nat} {h : Home} (hb : G.β l = some h) (hf : h.fz = false) (ob : Obj) (tag csz : Nat) (htag : h.tag < tag) (hz : h.tag ≠ 0)
    (o : AObj) (ho : ORel C fid ⟨upd G.β l ⟨w.heap.size, tag, csz, false⟩, G.I⟩ (w.alloc ob) ⟨w.heap.size, tag, csz, false⟩ o) :
    RelH C fid ⟨upd G.β l ⟨w.heap.size, tag, csz, false⟩, G.I⟩ (H.set l o) (w.alloc ob) ∧ Ext G w ⟨upd G.β l ⟨w.heap.size, tag, csz, false⟩, G.I⟩ (w.alloc ob) l H.length := by
  have hlt := hR.lt hb
  have hle : HomesLe G.β (upd G.β l ⟨w.heap.size, tag, csz, false⟩) := fun x h0 e => by
    by_cases hx : x = l
    · subst hx; rw [hb] at e; cases e
      exact ⟨_, upd_same _ _ _, Nat.le_of_lt htag, fun q => absurd q hz, fun q => by simp only at q; omega, fun q => by rw [hf] at q; cases q⟩
    · exact ⟨h0, by rw [upd_other hx]; exact e, Nat.le_refl _, id, fun _ => ⟨rfl, rfl⟩, fun _ => rfl⟩
  refine ⟨⟨fun x h0 e => ?_, fun x y h1 h2 e1 e2 q => ?_, fun x h0 e => ?_, fun b hi => ?_, fun x h0 e q => ?_, fun b o hg => ⟨(hR.glob b o hg).1, by rw [alloc_old (hR.imm b (hR.glob b o hg).1).1]; exact (hR.glob b o hg).2⟩⟩, ⟨by simp, rfl, rfl, rfl, fun b hb' _ => alloc_old hb', hle, fun x h0 e => ?_, fun _ h => h, fun _ h => .inl h⟩⟩
  · by_cases hx : x = l
    · subst hx; simp only [upd_same] at e; cases e
      exact ⟨o, by simp [hlt], ho⟩
    · simp only [upd_other hx] at e
      obtain ⟨o', e', hr⟩ := hR.obj x h0 e
      exact ⟨o', by rw [List.getElem?_set_ne (Ne.symm hx)]; exact e', hr.mono (G' := ⟨upd G.β l _, G.I⟩) hle (fun b hi => ⟨hi, alloc_old (hR.imm b hi).1⟩) (alloc_old (hR.blk x h0 e))⟩
  · by_cases hx : x = l <;> by_cases hy : y = l
    · rw [hx, hy]
    · subst hx; simp only [upd_same] at e1; cases e1; simp only [upd_other hy] at e2
      have := hR.blk y h2 e2; simp only at q; omega
    · subst hy; simp only [upd_same] at e2; cases e2; simp only [upd_other hx] at e1
      have := hR.blk x h1 e1; simp only at q; omega
    · simp only [upd_other hx] at e1; simp only [upd_other hy] at e2
      exact hR.inj x y h1 h2 e1 e2 q
  · rw [World.size_alloc]
    by_cases hx : x = l
    · subst hx; simp only [upd_same] at e; cases e; simp
    · simp only [upd_other hx] at e; have := hR.blk x h0 e; omega
  · refine ⟨by rw [World.size_alloc]; have := (hR.imm b hi).1; omega, fun x h0 e q => ?_⟩
    by_cases hx : x = l
    · subst hx; simp only [upd_same] at e; cases e
      have := (hR.imm b hi).1; simp only at q; omega
    · simp only [upd_other hx] at e; exact (hR.imm b hi).2 x h0 e q
  · by_cases hx : x = l
    · subst hx; simp only [upd_same] at e; cases e; cases q
    · simp only [upd_other hx] at e; exact hR.fzI x h0 e q
  · by_cases hx : x = l
    · subst hx; simp only [upd_same] at e; cases e; exact .inl ⟨h, hb, .inr (Nat.le_refl _)⟩
    · simp only [upd_other hx] at e; exact .inl ⟨h0, e, .inl rfl⟩

/-! ### freezing -/

theorem flat_drop {es : Nat} : ∀ {ds : List V}, (∀ d ∈ ds, (cellsV d).length = es) → ∀ (n : Nat), (ds.drop n).flatMap cellsV = (ds.flatMap cellsV).drop (n * es)
  | ds, _, 0 => by simp
  | [], _, n + 1 => by simp
  | d :: ds, h, n + 1 => by
    have h1 := h d (by simp)
    rw [List.drop_succ_cons, flat_drop (fun x hx => h x (by simp [hx])) n, List.flatMap_cons, Nat.succ_mul, Nat.add_comm, ← List.drop_drop]
    congr 1
    rw [List.drop_left' h1]

theorem flat_take {es : Nat} : ∀ {ds : List V}, (∀ d ∈ ds, (cellsV d).length = es) → ∀ (n : Nat), (ds.take n).flatMap cellsV = (ds.flatMap cellsV).take (n * es)
  | ds, _, 0 => by simp
  | [], _, n + 1 => by simp
  | d :: ds, h, n + 1 => by
    have h1 := h d (by simp)
    rw [List.take_succ_cons, List.flatMap_cons, flat_take (fun x hx => h x (by simp [hx])) n, List.flatMap_cons, Nat.succ_mul, List.take_append, h1, List.take_of_length_le (l := cellsV d) (by rw [h1]; exact Nat.le_add_left _ _), Nat.add_sub_cancel]

theorem flat_length {es : Nat} : ∀ {ds : List V}, (∀ d ∈ ds, (cellsV d).length = es) → (ds.flatMap cellsV).length = ds.length * es
  | [], _ => by simp
  | d :: ds, h => by
    rw [List.flatMap_cons, List.length_append, flat_length (fun x hx => h x (by simp [hx])), h d (by simp), List.length_cons, Nat.succ_mul, Nat.add_comm]

theorem isPs_append : ∀ (a b : List V), isPs (a ++ b) = (isPs a && isPs b)
  | [], b => by simp [isPs]
  | v :: a, b => by simp [isPs, isPs_append a b, Bool.and_assoc]

theorem isPs_cells (v : V) (h : isP v = true) : isPs (cellsV v) = true := by
  cases v <;> simp_all [cellsV, isPs, isP]

theorem isPs_flat : ∀ {ds : List V}, isPs ds = true → isPs (ds.flatMap cellsV) = true
  | [], _ => by simp [isPs]
  | d :: ds, h => by
    simp only [isPs, Bool.and_eq_true] at h
    rw [List.flatMap_cons, isPs_append, isPs_cells d h.1, isPs_flat h.2]; rfl

theorem isPs_sub : ∀ {ds : List V}, isPs ds = true → (∀ n, isPs (ds.drop n) = true) ∧ ∀ n, isPs (ds.take n) = true := by
  intro ds h
  constructor
  · intro n
    have : isPs (ds.take n ++ ds.drop n) = true := by rw [List.take_append_drop]; exact h
    rw [isPs_append, Bool.and_eq_true] at this; exact this.2
  · intro n
    have : isPs (ds.take n ++ ds.drop n) = true := by rw [List.take_append_drop]; exact h
    rw [isPs_append, Bool.and_eq_true] at this; exact this.1

theorem cell_of_cells {b o : Nat} {c : Array Value} {e : TypeId} {f : Nat × Nat} (h : w.heap[b]? = some (.cells c e f)) : w.cell? ⟨b, o, none⟩ = c[o]? := by
  simp [World.cell?, h]

theorem CellsAt.of_row {b : Nat} {c : Array Value} {e : TypeId} {f : Nat × Nat} {vals rest : List Value} (h : w.heap[b]? = some (.cells c e f)) (hc : c.toList = vals ++ rest) :
    CellsAt w b 0 vals := by
  intro j x hx
  rw [cell_of_cells h, Nat.zero_add, ← Array.getElem?_toList, hc, List.getElem?_append_left (by
    rcases Nat.lt_or_ge j vals.length with q | q
    · exact q
    · simp [List.getElem?_eq_none q] at hx)]
  exact hx

theorem CellsAt.drop {b o : Nat} {vals : List Value} (h : CellsAt w b o vals) (n : Nat) : CellsAt w b (o + n) (vals.drop n) := by
  intro j x hx
  rw [List.getElem?_drop] at hx
  rw [Nat.add_assoc]; exact h (n + j) x hx
theorem CellsAt.take {b o : Nat} {vals : List Value} (h : CellsAt w b o vals) (n : Nat) : CellsAt w b o (vals.take n) := by
  intro j x hx
  rw [List.getElem?_take] at hx
  split at hx
  · exact h j x hx
  · cases hx

/-- The list that a part of a row is, once nobody writes the row. -/
theorem list_of_row {l es : Nat} {ds : List V} {h : Home} {fz : Bool} (ho : ORel C fid G w h (.row es ds fz)) (hI : G.I h.b) (hp : isPs ds = true) {off len n cap : Nat} {a : Addr}
    (ha : a = ⟨h.b, off * es, none⟩ ∧ n = len ∧ (off + cap) * es ≤ h.csz ∧ len ≤ cap) (hl : off + len ≤ ds.length) :
    PRel w G.I (.list es ((ds.drop off).take len)) (.slice (some a) n cap) := by
  obtain ⟨-, -, -, -, hu, c, e, vals, rest, hc, -, hv, hr⟩ := ho
  obtain ⟨rfl, rfl, -, hcap⟩ := ha
  have hat := (((CellsAt.of_row hc hv).drop (off * es)).take (n * es))
  have hu' : ∀ d ∈ ds.drop off, (cellsV d).length = es := fun d hd => hu d (List.mem_of_mem_drop hd)
  have hlen : ((ds.drop off).take n).length = n := by simp; omega
  have key := PRel.list (w := w) (I := G.I) es ((ds.drop off).take n) h.b (off * es) cap ((vals.drop (off * es)).take (n * es)) hI (by simpa using hat)
    (fun d hd => hu' d (List.mem_of_mem_take hd)) (by
      rw [flat_take hu', flat_drop hu]
      exact ((hr.drop _).take _).toP ((isPs_sub ((isPs_sub (isPs_flat hp)).1 _)).2 _)) (by rw [hlen]; exact hcap)
  rwa [hlen] at key

theorem row_frozen (hR : RelH C fid G H w) {l es : Nat} {ds : List V} (hH : H[l]? = some (.row es ds false)) {h : Home} (hb : G.β l = some h) :
    let G' : Gh := ⟨upd G.β l { h with fz := true }, fun b => G.I b ∨ b = h.b⟩
    RelH C fid G' (H.set l (.row es ds true)) w ∧ Ext G w G' w l H.length ∧ ORel C fid G' w { h with fz := true } (.row es ds true) := by
  intro G'
  obtain ⟨o, ho, hr⟩ := hR.obj l h hb
  rw [hH] at ho; cases ho
  have hf : h.fz = false := hr.2.2.1
  have hle : HomesLe G.β G'.β := fun x h0 e => by
    by_cases hx : x = l
    · subst hx; rw [hb] at e; cases e
      exact ⟨_, upd_same _ _ _, Nat.le_refl _, id, fun _ => ⟨rfl, rfl⟩, fun q => by rw [hf] at q; cases q⟩
    · exact ⟨h0, by show upd _ _ _ _ = _; rw [upd_other hx]; exact e, Nat.le_refl _, id, fun _ => ⟨rfl, rfl⟩, fun _ => rfl⟩
  have hII : ∀ b, G.I b → G'.I b ∧ w.heap[b]? = w.heap[b]? := fun b hi => ⟨.inl hi, rfl⟩
  have hO : ORel C fid G' w { h with fz := true } (.row es ds true) := by
    have := ORel.mono (G' := G') hle hII rfl hr
    exact ⟨this.1, this.2.1, rfl, this.2.2.2⟩
  refine ⟨⟨fun x h0 e => ?_, fun x y h1 h2 e1 e2 q => ?_, fun x h0 e => ?_, fun b hi => ?_, fun x h0 e q => ?_, fun b o hg => ⟨.inl (hR.glob b o hg).1, (hR.glob b o hg).2⟩⟩, ⟨Nat.le_refl _, rfl, rfl, rfl, fun _ _ _ => rfl, hle, fun x h0 e => ?_, fun _ h => .inl h, fun b hi => ?_⟩, hO⟩
  · by_cases hx : x = l
    · subst hx; rw [show G'.β = upd _ _ _ from rfl, upd_same] at e; cases e
      exact ⟨_, by simp [hR.lt hb], hO⟩
    · rw [show G'.β = upd _ _ _ from rfl, upd_other hx] at e
      obtain ⟨o', e', hr'⟩ := hR.obj x h0 e
      exact ⟨o', by rw [List.getElem?_set_ne (Ne.symm hx)]; exact e', hr'.mono hle hII rfl⟩
  · have inj' : ∀ z h3, G'.β z = some h3 → ∃ h4, G.β z = some h4 ∧ h4.b = h3.b := fun z h3 e => by
      by_cases hz : z = l
      · subst hz; rw [show G'.β = upd _ _ _ from rfl, upd_same] at e; cases e; exact ⟨h, hb, rfl⟩
      · rw [show G'.β = upd _ _ _ from rfl, upd_other hz] at e; exact ⟨h3, e, rfl⟩
    obtain ⟨h4, e4, b4⟩ := inj' x h1 e1
    obtain ⟨h5, e5, b5⟩ := inj' y h2 e2
    exact hR.inj x y h4 h5 e4 e5 (b4.trans (q.trans b5.symm))
  · by_cases hx : x = l
    · subst hx; rw [show G'.β = upd _ _ _ from rfl, upd_same] at e; cases e; exact hR.blk x h hb
    · rw [show G'.β = upd _ _ _ from rfl, upd_other hx] at e; exact hR.blk x h0 e
  · rcases hi with hi | rfl
    · refine ⟨(hR.imm b hi).1, fun x h0 e q => ?_⟩
      by_cases hx : x = l
      · subst hx; rw [show G'.β = upd _ _ _ from rfl, upd_same] at e; cases e; rfl
      · rw [show G'.β = upd _ _ _ from rfl, upd_other hx] at e; exact (hR.imm b hi).2 x h0 e q
    · refine ⟨hR.blk l h hb, fun x h0 e q => ?_⟩
      by_cases hx : x = l
      · subst hx; rw [show G'.β = upd _ _ _ from rfl, upd_same] at e; cases e; rfl
      · rw [show G'.β = upd _ _ _ from rfl, upd_other hx] at e; exact absurd (hR.inj x l h0 h e hb q) hx
  · by_cases hx : x = l
    · subst hx; rw [show G'.β = upd _ _ _ from rfl, upd_same] at e; cases e; exact .inr rfl
    · rw [show G'.β = upd _ _ _ from rfl, upd_other hx] at e; exact .inl (hR.fzI x h0 e q)
  · by_cases hx : x = l
    · subst hx; rw [show G'.β = upd _ _ _ from rfl, upd_same] at e; cases e; exact .inl ⟨h, hb, .inl rfl⟩
    · rw [show G'.β = upd _ _ _ from rfl, upd_other hx] at e; exact .inl ⟨h0, e, .inl rfl⟩
  · rcases hi with hi | rfl
    · exact .inl hi
    · exact .inr (.inr ⟨l, h, hb, rfl⟩)

/-- What freezing leaves: the world is the same. -/
structure Froze (C : Ctx) (fid : Nat → Nat) (G : Gh) (H : Heap) (w : World) (low : Nat) (G' : Gh) (H' : Heap) (low' : Nat) : Prop where
  rel : RelH C fid G' H' w
  ext : ∀ m, m ≤ low' → Ext G w G' w m H.length
  low : low' ≤ low
  len : H'.length = H.length

theorem Froze.refl (hR : RelH C fid G H w) (low : Nat) : Froze C fid G H w low G H low := ⟨hR, fun _ _ => .refl _ _ _ _, Nat.le_refl _, rfl⟩
theorem Froze.trans {G₁ G₂ : Gh} {H₁ H₂ : Heap} {low low₁ low₂ : Nat} (h : Froze C fid G H w low G₁ H₁ low₁) (k : Froze C fid G₁ H₁ w low₁ G₂ H₂ low₂) : Froze C fid G H w low G₂ H₂ low₂ :=
  ⟨k.rel, fun m hm => (h.ext m (Nat.le_trans hm k.low)).trans ((k.ext m hm).le (Nat.le_refl _) (Nat.le_of_eq h.len.symm)), Nat.le_trans k.low h.low, k.len.trans h.len⟩

theorem freeze1_sound (hR : RelH C fid G H w) {low low' : Nat} {v v' : V} {x : Value} {H' : Heap} (hv : VRel fid G w v x) (he : freeze1 H low v = some (v', H', low')) :
    ∃ G', Froze C fid G H w low G' H' low' ∧ VRel fid G' w v' x := by
  unfold freeze1 at he
  split at he
  · rename_i l es off len tag
    split at he
    · rename_i es' ds fz hl
      split at he
      · rename_i hc
        obtain ⟨rfl, ht, hle, hp⟩ := hc
        simp only [Option.some.injEq, Prod.mk.injEq] at he
        obtain ⟨rfl, rfl, rfl⟩ := he
        cases hv with
        | p _ _ h => cases h
        | sref _ _ _ _ _ h a n cap hb hle' ha =>
          obtain ⟨o, ho, hr⟩ := hR.obj l h hb
          rw [hl] at ho; cases ho
          have htag : h.tag = tag := hr.1.trans ht
          cases fz with
          | true =>
            exact ⟨G, .refl hR _, .p _ _ (list_of_row (l := l) hr (hR.fzI l h hb hr.2.2.1) hp (ha htag) hle)⟩
          | false =>
            obtain ⟨h1, h2, h3⟩ := row_frozen hR hl hb
            exact ⟨_, ⟨h1, fun m hm => h2.le (Nat.le_trans hm (Nat.min_le_right _ _)) (Nat.le_refl _), Nat.min_le_left _ _, by simp⟩, .p _ _ (list_of_row (l := l) h3 (.inr rfl) hp (ha htag) hle)⟩
      · cases he
    · cases he
  · simp only [Option.some.injEq, Prod.mk.injEq] at he
    obtain ⟨rfl, rfl, rfl⟩ := he
    exact ⟨G, .refl hR _, hv⟩

theorem freezeL_sound : ∀ {vs vs' : List V} {xs : List Value} {G : Gh} {H H' : Heap} {low low' : Nat}, RelH C fid G H w → VRels fid G w vs xs → freezeL H low vs = some (vs', H', low') →
    ∃ G', Froze C fid G H w low G' H' low' ∧ VRels fid G' w vs' xs
  | [], _, _, G, H, H', low, low', hR, .nil, he => by
    simp only [freezeL, Option.some.injEq, Prod.mk.injEq] at he
    obtain ⟨rfl, rfl, rfl⟩ := he
    exact ⟨G, .refl hR _, .nil⟩
  | v :: r, _, _, G, H, H', low, low', hR, .cons _ x _ xs hv hs, he => by
    simp only [freezeL] at he
    split at he
    · rename_i v1 H1 low1 h1
      split at he
      · rename_i r2 H2 low2 h2
        simp only [Option.some.injEq, Prod.mk.injEq] at he
        obtain ⟨rfl, rfl, rfl⟩ := he
        obtain ⟨G1, f1, k1⟩ := freeze1_sound hR hv h1
        obtain ⟨G2, f2, k2⟩ := freezeL_sound f1.rel (hs.ext hR (f1.ext 0 (Nat.zero_le _))) h2
        exact ⟨G2, f1.trans f2, .cons _ _ _ _ (k1.ext f1.rel (f2.ext 0 (Nat.zero_le _))) k2⟩
      · cases he
    · cases he

theorem VRel.aggInv {vs : List V} {x : Value} (h : VRel fid G w (.agg vs) x) : ∃ vals, x = .agg ⟨vals⟩ ∧ VRels fid G w vs vals := by
  cases h with
  | p _ _ h => cases h with | agg _ vals hr => exact ⟨vals, rfl, hr.toV⟩
  | agg _ vals hr => exact ⟨vals, rfl, hr⟩
theorem VRel.tupInv {vs : List V} {x : Value} (h : VRel fid G w (.tup vs) x) : ∃ vals, x = .tuple ⟨vals⟩ ∧ VRels fid G w vs vals := by
  cases h with
  | p _ _ h => cases h with | tup _ vals hr => exact ⟨vals, rfl, hr.toV⟩
  | tup _ vals hr => exact ⟨vals, rfl, hr⟩

theorem freezeV_sound (hR : RelH C fid G H w) {low low' : Nat} {v v' : V} {x : Value} {H' : Heap} (hv : VRel fid G w v x) (he : freezeV H low v = some (v', H', low')) :
    ∃ G', Froze C fid G H w low G' H' low' ∧ VRel fid G' w v' x := by
  unfold freezeV at he
  split at he
  · simp only [Option.some.injEq, Prod.mk.injEq] at he
    obtain ⟨rfl, rfl, rfl⟩ := he
    exact ⟨G, .refl hR _, hv⟩
  · split at he
    · rename_i vs
      split at he
      · rename_i vs' H1 low1 h1
        simp only [Option.some.injEq, Prod.mk.injEq] at he
        obtain ⟨rfl, rfl, rfl⟩ := he
        obtain ⟨vals, rfl, hr⟩ := hv.aggInv
        obtain ⟨G1, f1, k1⟩ := freezeL_sound hR hr h1
        exact ⟨G1, f1, .agg _ _ k1⟩
      · cases he
    · rename_i vs
      split at he
      · rename_i vs' H1 low1 h1
        simp only [Option.some.injEq, Prod.mk.injEq] at he
        obtain ⟨rfl, rfl, rfl⟩ := he
        obtain ⟨vals, rfl, hr⟩ := hv.tupInv
        obtain ⟨G1, f1, k1⟩ := freezeL_sound hR hr h1
        exact ⟨G1, f1, .tup _ _ k1⟩
      · cases he
    · exact freeze1_sound hR hv he

theorem freezeVs_sound : ∀ {vs vs' : List V} {xs : List Value} {G : Gh} {H H' : Heap} {low low' : Nat}, RelH C fid G H w → VRels fid G w vs xs → freezeVs H low vs = some (vs', H', low') →
    ∃ G', Froze C fid G H w low G' H' low' ∧ VRels fid G' w vs' xs
  | [], _, _, G, H, H', low, low', hR, .nil, he => by
    simp only [freezeVs, Option.some.injEq, Prod.mk.injEq] at he
    obtain ⟨rfl, rfl, rfl⟩ := he
    exact ⟨G, .refl hR _, .nil⟩
  | v :: r, _, _, G, H, H', low, low', hR, .cons _ x _ xs hv hs, he => by
    simp only [freezeVs] at he
    split at he
    · rename_i v1 H1 low1 h1
      split at he
      · rename_i r2 H2 low2 h2
        simp only [Option.some.injEq, Prod.mk.injEq] at he
        obtain ⟨rfl, rfl, rfl⟩ := he
        obtain ⟨G1, f1, k1⟩ := freezeV_sound hR hv h1
        obtain ⟨G2, f2, k2⟩ := freezeVs_sound f1.rel (hs.ext hR (f1.ext 0 (Nat.zero_le _))) h2
        exact ⟨G2, f1.trans f2, .cons _ _ _ _ (k1.ext f1.rel (f2.ext 0 (Nat.zero_le _))) k2⟩
      · cases he
    · cases he

end Go.Abs
