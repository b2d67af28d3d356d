/- Each operation: where the executor goes on, the machine goes on alike. -/
import Derived.Test.YteiajndkjnlmiaaGreatDoorXeHeap
import Derived.Laws.CopyRow
import Derived.ChangeKeysEq
set_option linter.unusedVariables false
set_option linter.unusedSimpArgs false
namespace Go.Abs
open Go
variable {C : Ctx} {fid : Nat → Nat} {w w' : World} {G G' : Gh} {H : Heap}

structure CtxOk (C : Ctx) (fid : Nat → Nat) : Prop where
  f : ∀ f i, C.fidx f = some i → fid i = f

mutual
theorem constV_sound {I : Nat → Prop} : ∀ (x : Value) {v : V}, constV x = some v → v = .undef ∨ PRel w I v x
  | .bool b, v, h => by simp only [constV, Option.some.injEq] at h; subst h; exact .inr (.bool b)
  | .int k n, v, h => by simp only [constV, Option.some.injEq] at h; subst h; exact .inr (.int k n)
  | .string ⟨⟨s⟩⟩, v, h => by simp only [constV, Option.some.injEq] at h; subst h; exact .inr (.str s)
  | .pointer none, v, h => by simp only [constV, Option.some.injEq] at h; subst h; exact .inr .nilp
  | .slice none 0 0, v, h => by simp only [constV, Option.some.injEq] at h; subst h; exact .inr .nil0
  | .map none, v, h => by simp only [constV, Option.some.injEq] at h; subst h; exact .inr .nilm
  | .nilFunc, v, h => by simp only [constV, Option.some.injEq] at h; subst h; exact .inr .nilf
  | .nilIface, v, h => by simp only [constV, Option.some.injEq] at h; subst h; exact .inr .nili
  | .agg ⟨vs⟩, v, h => by
    simp only [constV, Option.map_eq_some_iff] at h
    obtain ⟨us, hu, rfl⟩ := h
    exact .inr (.agg us vs (constVs_sound vs hu))
  | .tuple ⟨[]⟩, v, h => by simp only [constV, Option.some.injEq] at h; subst h; exact .inl rfl
  | .tuple ⟨_ :: _⟩, v, h => by simp [constV] at h
  | .slice none (n + 1) _, v, h => by simp [constV] at h
  | .slice none 0 (n + 1), v, h => by simp [constV] at h
  | .pointer (some _), v, h | .slice (some _) _ _, v, h | .map (some _), v, h | .float .., v, h | .complex .., v, h | .chan .., v, h | .func .., v, h | .iface .., v, h => by simp [constV] at h
theorem constVs_sound {I : Nat → Prop} : ∀ (xs : List Value) {vs : List V}, constVs xs = some vs → PRels w I vs xs
  | [], vs, h => by simp only [constVs, Option.some.injEq] at h; subst h; exact .nil
  | x :: r, vs, h => by
    simp only [constVs] at h
    split at h
    · rename_i v hv
      split at h
      · cases h
      · simp only [Option.map_eq_some_iff] at h
        obtain ⟨us, hu, rfl⟩ := h
        exact .cons v x us r ((constV_sound x hv).resolve_left (by rintro rfl; simp_all [isU])) (constVs_sound r hu)
    · cases h
end

/-- The operands' values. -/
def OpdRel (C : Ctx) (fid : Nat → Nat) (vars : List Nat) (G : Gh) (w : World) (ev : Opd → V) (ρ : Operand → Value) : Prop :=
  ∀ x ax, C.opd vars x = some ax → VRel fid G w (ev ax) (ρ x)

/-- What an operation has come to. -/
def Did (C : Ctx) (fid : Nat → Nat) (G : Gh) (H : Heap) (w : World) (low0 : Nat) (r : Result Next) (v : V) (H' : Heap) (low' : Nat) : Prop :=
  ∃ x w' G', (r = .ok (.value x) w' ∨ (r = .ok .skip w' ∧ x = undef)) ∧ RelH C fid G' H' w' ∧ (∀ m, m ≤ low' → Ext G w G' w' m H.length) ∧ VRel fid G' w' v x ∧ low' ≤ low0 ∧ H.length ≤ H'.length

theorem Did.same (hR : RelH C fid G H w) {low : Nat} {r : Result Next} {v : V} {x : Value} (hr : r = .ok (.value x) w) (hv : VRel fid G w v x) : Did C fid G H w low r v H low :=
  ⟨x, w, G, .inl hr, hR, fun _ _ => .refl _ _ _ _, hv, Nat.le_refl _, Nat.le_refl _⟩

theorem Did.alloc (hR : RelH C fid G H w) {low : Nat} {r : Result Next} {v : V} {x : Value} {o : AObj} {ob : Obj} (tag csz : Nat) (hr : r = .ok (.value x) (w.alloc ob))
    (ho : ORel C fid ⟨upd G.β H.length ⟨w.heap.size, tag, csz, false⟩, G.I⟩ (w.alloc ob) ⟨w.heap.size, tag, csz, false⟩ o)
    (hv : VRel fid ⟨upd G.β H.length ⟨w.heap.size, tag, csz, false⟩, G.I⟩ (w.alloc ob) v x) : Did C fid G H w low r v (H ++ [o]) low :=
  ⟨x, _, _, .inl hr, hR.push o ob tag csz ho, fun m _ => .push hR ob tag csz m, hv, Nat.le_refl _, by simp⟩

theorem Did.afterFreeze {low low1 : Nat} {G1 : Gh} {H1 : Heap} (f : Froze C fid G H w low G1 H1 low1) {r : Result Next} {v : V} {H' : Heap} {low' : Nat} (h : Did C fid G1 H1 w low1 r v H' low') :
    Did C fid G H w low r v H' low' := by
  obtain ⟨x, w', G', hr, hR, he, hv, hl, hn⟩ := h
  refine ⟨x, w', G', hr, hR, fun m hm => (f.ext m (Nat.le_trans hm hl)).trans ((he m hm).le (Nat.le_refl _) (Nat.le_of_eq f.len.symm)), hv, Nat.le_trans hl f.low, by have := f.len; omega⟩

section ops
variable {vars : List Nat} {ev : Opd → V} {ρ : Operand → Value} {low low' : Nat} {v : V} {H' : Heap} {pos : String} {aop : AOp} {o : Oper}

theorem opd_func (hC : CtxOk C fid) {f : FuncId} {ax : Opd} (h : C.opd vars (.func f) = some ax) {tE vE : Env} : VRel fid G w (ax.ev tE vE) (.func (.func f) #[] #[]) := by
  simp only [Ctx.opd, Option.map_eq_some_iff] at h
  obtain ⟨i, hi, rfl⟩ := h
  have := VRel.fn (fid := fid) (G := G) (w := w) i [] [] [] [] .nil .nil
  rw [hC.f f i hi] at this
  exact this

theorem VRel.boolInv {x : Value} {b : Bool} (h : VRel fid G w (.bool b) x) : x = .bool b := by
  cases h with | p _ _ h => cases h; rfl
theorem VRel.intInv {x : Value} {k : IntKind} {n : Int} (h : VRel fid G w (.int k n) x) : x = .int k n := by
  cases h with | p _ _ h => cases h; rfl
theorem VRel.strInv {x : Value} {s : List UInt8} (h : VRel fid G w (.str s) x) : x = .string ⟨⟨s⟩⟩ := by
  cases h with | p _ _ h => cases h; rfl
theorem VRel.ptrInv {x : Value} {l o : Nat} (h : VRel fid G w (.ptr l o) x) : ∃ h, G.β l = some h ∧ h.tag = 0 ∧ x = .pointer (some ⟨h.b, o, none⟩) := by
  cases h with
  | p _ _ h => cases h
  | ptr _ _ h hb ht => exact ⟨h, hb, ht, rfl⟩
theorem VRel.mapInv {x : Value} {l : Nat} (h : VRel fid G w (.map l) x) : ∃ h, G.β l = some h ∧ h.tag = 0 ∧ x = .map (some h.b) := by
  cases h with
  | p _ _ h => cases h
  | map _ h hb ht => exact ⟨h, hb, ht, rfl⟩
theorem VRel.eptrInv {x : Value} {l es i f tag : Nat} (h : VRel fid G w (.eptr l es i f tag) x) :
    ∃ h a, G.β l = some h ∧ tag ≤ h.tag ∧ (h.tag = tag → a = ⟨h.b, i * es + f, none⟩) ∧ x = .pointer (some a) := by
  cases h with
  | p _ _ h => cases h
  | eptr _ _ _ _ _ h a hb hle ha => exact ⟨h, a, hb, hle, ha, rfl⟩
theorem VRel.pinInv {x : Value} {vs : List V} {f : Nat} (h : VRel fid G w (.pin vs f) x) :
    ∃ b o vals, G.I b ∧ CellsAt w b o vals ∧ PRels w G.I vs vals ∧ x = .pointer (some ⟨b, o + f, none⟩) := by
  cases h with
  | p _ _ h => cases h
  | pin _ _ b o vals hI hc hr => exact ⟨b, o, vals, hI, hc, hr, rfl⟩
theorem VRel.srefInv {x : Value} {l es off len tag : Nat} (h : VRel fid G w (.sref l es off len tag) x) :
    ∃ h a n cap, G.β l = some h ∧ tag ≤ h.tag ∧ (h.tag = tag → a = ⟨h.b, off * es, none⟩ ∧ n = len ∧ (off + cap) * es ≤ h.csz ∧ len ≤ cap) ∧ x = .slice (some a) n cap := by
  cases h with
  | p _ _ h => cases h
  | sref _ _ _ _ _ h a n cap hb hle ha => exact ⟨h, a, n, cap, hb, hle, ha, rfl⟩
theorem VRel.fnInv {x : Value} {i : Nat} {fs cs : List V} (h : VRel fid G w (.fn i fs cs) x) :
    ∃ xs ys, VRels fid G w fs xs ∧ VRels fid G w cs ys ∧ x = .func (.func (fid i)) ⟨xs⟩ ⟨ys⟩ := by
  cases h with
  | p _ _ h => cases h
  | fn _ _ _ xs ys hf hc => exact ⟨xs, ys, hf, hc, rfl⟩
theorem VRel.yieldInv {x : Value} {l : Nat} (h : VRel fid G w (.yield l) x) : ∃ h, G.β l = some h ∧ h.tag = 0 ∧ x = .func (.yield h.b) #[] #[] := by
  cases h with
  | p _ _ h => cases h
  | yield _ h hb ht => exact ⟨h, hb, ht, rfl⟩

/-! reading -/

theorem VRels.readCells {cs : List V} {xs : List Value} (h : VRels fid G w cs xs) {o : Nat} {sh : Option Nat} {u : V} (hr : Abs.readCells cs o sh = some u) :
    match sh with
    | none => ∃ x, xs[o]? = some x ∧ VRel fid G w u x
    | some n => o + n ≤ xs.length ∧ VRel fid G w u (.agg ⟨(xs.drop o).take n⟩) := by
  cases sh with
  | none => exact h.get hr
  | some n =>
    simp only [Abs.readCells] at hr
    split at hr
    · rename_i hle
      simp only [Option.some.injEq] at hr
      subst hr
      exact ⟨by rw [h.length]; exact hle, .agg _ _ ((h.drop o).take n)⟩
    · cases hr

theorem shape_run {t : TypeId} {sh : Option Nat} (h : C.shapeOf t = some sh) :
    (∃ n, sh = some n ∧ (∀ w, (isAgg t).run C.P w = .ok true w) ∧ ∀ w, (Go.sizeOf t).run C.P w = .ok n w) ∨ (sh = none ∧ ∀ w, (isAgg t).run C.P w = .ok false w) := by
  unfold Ctx.shapeOf at h
  have key : ∀ d, C.P.underlying t = some d → ∀ w, (isAgg t).run C.P w = .ok (match d with | .struct _ | .array _ _ => true | _ => false) w := by
    intro d hd w
    unfold isAgg
    rw [Sem.run_bind, run_underlying hd]
    cases d <;> rfl
  have sz : ∀ n, C.sizeOf t = some n → ∀ w, (Go.sizeOf t).run C.P w = .ok n w := by
    intro n hn w
    simp only [Ctx.sizeOf, Option.map_eq_some_iff] at hn
    obtain ⟨i, hi, rfl⟩ := hn
    unfold Go.sizeOf
    rw [Sem.run_bind, run_typeInfo (P := C.P) w hi]; rfl
  cases hd : C.P.underlying t with
  | none => rw [hd] at h; cases h
  | some d =>
    rw [hd] at h
    have hk := key d hd
    cases d <;> simp only [Option.some.injEq, Option.map_eq_some_iff] at h <;>
      first
        | exact .inr ⟨h.symm, hk⟩
        | (obtain ⟨n, hn, rfl⟩ := h; exact .inl ⟨n, rfl, hk, sz n hn⟩)

theorem run_loadVar_at {t : TypeId} {sh : Option Nat} (h : C.shapeOf t = some sh) {b o : Nat} {cs : List V} {vals : List Value} {f : Nat} (hc : CellsAt w b o vals) (hv : VRels fid G w cs vals) {u : V}
    (hr : Abs.readCells cs f sh = some u) : ∃ x, (loadVar t ⟨b, o + f, none⟩).run C.P w = .ok x w ∧ VRel fid G w u x := by
  have hk := hv.readCells hr
  rcases shape_run h with ⟨n, rfl, ha, hs⟩ | ⟨rfl, ha⟩
  · obtain ⟨hle, hu⟩ := hk
    refine ⟨_, ?_, hu⟩
    have hcs : ∀ (j : Nat) (x : Value), ((vals.drop f).take n)[j]? = some x → w.cell? (Addr.add ⟨b, o + f, none⟩ j) = some x := by
      intro j x hx
      rw [Addr.add_lit]
      rw [List.getElem?_take] at hx
      split at hx
      · rw [List.getElem?_drop] at hx; rw [Nat.add_assoc]; exact hc _ _ hx
      · cases hx
    have hl := run_loadCells_list (P := C.P) w ⟨b, o + f, none⟩ _ hcs
    have hlen : ((vals.drop f).take n).length = n := by simp; omega
    rw [hlen] at hl
    unfold loadVar
    simp only [Sem.run_bind, ha, hs, Result.andThen_ok, if_true, hl, Sem.run_pure]
  · obtain ⟨x, hx, hu⟩ := hk
    refine ⟨x, ?_, hu⟩
    unfold loadVar
    simp only [Sem.run_bind, ha, Result.andThen_ok, Bool.false_eq_true, if_false, run_load, hc f x hx]

theorem loadA_sound (hR : RelH C fid G H w) {t : TypeId} {sh : Option Nat} (h : C.shapeOf t = some sh) {a u : V} {x : Value} (ha : VRel fid G w a x) (he : loadA H sh a = some u) :
    ∃ y, (Instr.loadAt t x).run C.P w = .ok y w ∧ VRel fid G w u y := by
  unfold loadA at he
  split at he
  · rename_i l o
    obtain ⟨h0, hb, ht, rfl⟩ := ha.ptrInv
    split at he
    · rename_i vs hl
      obtain ⟨ob, ho, hr⟩ := hR.obj l h0 hb
      rw [hl] at ho; cases ho
      obtain ⟨-, -, c, e, hc, hv⟩ := hr
      obtain ⟨y, hy, hu⟩ := run_loadVar_at (o := 0) h (CellsAt.of_row (vals := c.toList) (rest := []) hc (by simp)) hv he
      rw [Nat.zero_add] at hy
      exact ⟨y, by simp only [Instr.loadAt, Instr.sureAddr, Sem.run_bind, Sem.run_pure, Result.andThen_ok, hy], hu⟩
    · cases he
  · rename_i l es i f tag
    obtain ⟨h0, ad, hb, hle, had, rfl⟩ := ha.eptrInv
    split at he
    · rename_i es' ds fz hl
      split at he
      · rename_i hc
        obtain ⟨rfl, htag⟩ := hc
        obtain ⟨ob, ho, hr⟩ := hR.obj l h0 hb
        rw [hl] at ho; cases ho
        obtain ⟨ht, -, -, -, hu, c, e, vals, rest, hc, hcs, hv, hrel⟩ := hr
        obtain ⟨d, hd, hrd⟩ := Option.bind_eq_some_iff.1 he
        have hdl : (cellsV d).length = es' := hu d (List.mem_of_getElem? hd)
        have hrel' : VRels fid G w (cellsV d) ((vals.drop (i * es')).take es') := by
          have h1 : (ds.drop i).flatMap cellsV = (ds.flatMap cellsV).drop (i * es') := flat_drop hu i
          have h2 : ds.drop i = d :: ds.drop (i + 1) := by
            obtain ⟨hi, rfl⟩ := List.getElem?_eq_some_iff.1 hd
            exact List.drop_eq_getElem_cons hi
          have h3 := (hrel.drop (i * es')).take es'
          rw [← h1, h2, List.flatMap_cons, List.take_append, hdl, Nat.sub_self, List.take_zero, List.append_nil, List.take_of_length_le (by omega)] at h3
          exact h3
        have hat : CellsAt w h0.b (i * es') ((vals.drop (i * es')).take es') := by
          have := ((CellsAt.of_row hc hv).drop (i * es')).take es'
          rwa [Nat.zero_add] at this
        obtain ⟨y, hy, huy⟩ := run_loadVar_at h hat hrel' hrd
        rw [had (ht.trans htag)]
        exact ⟨y, by simp only [Instr.loadAt, Instr.sureAddr, Sem.run_bind, Sem.run_pure, Result.andThen_ok, hy], huy⟩
      · cases he
    · cases he
  · rename_i vs f
    obtain ⟨b, o, vals, hI, hc, hr, rfl⟩ := ha.pinInv
    obtain ⟨y, hy, hu⟩ := run_loadVar_at h hc (PRels.toV (fid := fid) hr) he
    exact ⟨y, by simp only [Instr.loadAt, Instr.sureAddr, Sem.run_bind, Sem.run_pure, Result.andThen_ok, hy], hu⟩
  · cases he

/-! writing -/

theorem oneCell_of_rel {c : V} {x : Value} (h : VRel fid G w c x) (hc : cellOk c = true) : x.oneCell' = true := by
  cases h with
  | p _ _ h => cases h <;> first | rfl | simp [cellOk] at hc
  | agg => simp [cellOk] at hc
  | tup => simp [cellOk] at hc
  | undef => simp [cellOk] at hc
  | _ => rfl

theorem oneCells_of_rel : ∀ {cs : List V} {xs : List Value}, VRels fid G w cs xs → cellsOk cs = true → ∀ x ∈ xs, x.oneCell' = true
  | _, _, .nil, _, x, hx => by simp at hx
  | _, _, .cons v y vs ys h hs, hc, x, hx => by
    simp only [cellsOk, Bool.and_eq_true] at hc
    rcases List.mem_cons.1 hx with rfl | hx
    · exact oneCell_of_rel h hc.1
    · exact oneCells_of_rel hs hc.2 x hx

theorem cells_rel {v : V} {y : Value} (h : VRel fid G w v y) (hc : cellsOk (cellsV v) = true) : VRels fid G w (cellsV v) y.cells.toList ∧ ∀ c ∈ y.cells.toList, c.oneCell' = true := by
  by_cases hv : ∃ vs, v = .agg vs
  · obtain ⟨vs, rfl⟩ := hv
    obtain ⟨vals, rfl, hr⟩ := h.aggInv
    exact ⟨hr, oneCells_of_rel hr hc⟩
  · have e : cellsV v = [v] := by
      cases v <;> first | rfl | (exfalso; exact hv ⟨_, rfl⟩)
    rw [e] at hc ⊢
    have h1 : y.oneCell' = true := oneCell_of_rel h (by simpa [cellsOk] using hc)
    have e' : y.cells = #[y] := by cases y <;> first | rfl | simp [Value.oneCell'] at h1
    rw [e']
    exact ⟨.cons _ _ _ _ h .nil, fun c hc => by simp at hc; subst hc; exact h1⟩

theorem setCells_rel : ∀ {ys : List V} {zs : List Value} {cs : List V} {xs : List Value} (o : Nat), VRels fid G w cs xs → VRels fid G w ys zs → o + ys.length ≤ cs.length →
    VRels fid G w (setCells cs o ys) (xs.take o ++ zs ++ xs.drop (o + zs.length))
  | _, _, cs, xs, o, h, .nil, _ => by simpa [setCells] using h
  | _, _, cs, xs, o, h, .cons y z ys zs hy hs, hl => by
    have hlen := h.length
    simp only [List.length_cons] at hl
    have ih := setCells_rel (o + 1) (h.set o hy) hs (by simp; omega)
    simp only [setCells]
    have e := list_seg_step xs o z zs (by have := hs.length; omega)
    rw [← List.length_cons (a := z)] at e
    rw [← e]; exact ih

theorem setCells_length : ∀ (ys cs : List V) (o : Nat), (setCells cs o ys).length = cs.length
  | [], cs, o => rfl
  | y :: ys, cs, o => by rw [setCells, setCells_length ys]; simp

theorem setRow_other {g b : Nat} (hb : b ≠ g) (c : Array Value) : (w.setRow g c).heap[b]? = w.heap[b]? := by
  unfold World.setRow
  simp only [Array.getElem?_modify]
  rw [if_neg (by omega)]

theorem setRow_size (g : Nat) (c : Array Value) : (w.setRow g c).heap.size = w.heap.size := by
  unfold World.setRow; simp

/-- A written object of cells. -/
theorem write_cells (hR : RelH C fid G H w) {l : Nat} {h : Home} {vs ys : List V} (hb : G.β l = some h) (hl : H[l]? = some (.cells vs)) {o : Nat} {zs : List Value} (hy : VRels fid G w ys zs)
    (hfit : o + ys.length ≤ vs.length) {c : Array Value} {e : TypeId} (hc : w.heap[h.b]? = some (.cells c e (0, 0))) :
    ∃ G', RelH C fid G' (H.set l (.cells (setCells vs o ys))) (w.setRow h.b (c.toList.take o ++ zs ++ c.toList.drop (o + zs.length)).toArray) ∧
      Ext G w G' (w.setRow h.b (c.toList.take o ++ zs ++ c.toList.drop (o + zs.length)).toArray) l H.length := by
  obtain ⟨ob, ho, hr⟩ := hR.obj l h hb
  rw [hl] at ho; cases ho
  obtain ⟨ht, hf, c', e', hc', hv⟩ := hr
  rw [hc] at hc'; cases hc'
  refine ⟨⟨upd G.β l h, G.I⟩, ?_, ?_⟩
  · refine RelH.write hR hb hf rfl hf (Nat.le_refl _) id rfl (setRow_size _ _) (fun b hne => setRow_other hne _) _ ?_
    refine ⟨ht, hf, _, e, setRow_heap w h.b c _ e _ hc, ?_⟩
    have hx : Ext G w ⟨upd G.β l h, G.I⟩ (w.setRow h.b (c.toList.take o ++ zs ++ c.toList.drop (o + zs.length)).toArray) l H.length :=
      Ext.write hR hb hf rfl (Nat.le_refl _) id rfl (setRow_size _ _) (fun b hne => setRow_other hne _) rfl rfl rfl
    exact ((setCells_rel o hv hy hfit).ext hR hx)
  · exact Ext.write hR hb hf rfl (Nat.le_refl _) id rfl (setRow_size _ _) (fun b hne => setRow_other hne _) rfl rfl rfl

theorem setCells_left : ∀ (xs a b : List V) (o : Nat), o + xs.length ≤ a.length → setCells (a ++ b) o xs = setCells a o xs ++ b
  | [], _, _, _, _ => rfl
  | x :: xs, a, b, o, h => by
    simp only [List.length_cons] at h
    rw [setCells, setCells, List.set_append_left _ _ (by omega), setCells_left xs _ b (o + 1) (by simp; omega)]
theorem setCells_right : ∀ (xs a b : List V) (o : Nat), setCells (a ++ b) (a.length + o) xs = a ++ setCells b o xs
  | [], _, _, _ => rfl
  | x :: xs, a, b, o => by
    rw [setCells, setCells, List.set_append_right _ _ (by omega), Nat.add_sub_cancel_left, Nat.add_assoc, setCells_right xs a]

theorem flat_set {es : Nat} {d' : V} {f : Nat} {xs : List V} : ∀ {ds : List V} {i : Nat} {d : V}, (∀ d ∈ ds, (cellsV d).length = es) → ds[i]? = some d → f + xs.length ≤ es → cellsV d' = setCells (cellsV d) f xs →
    (ds.set i d').flatMap cellsV = setCells (ds.flatMap cellsV) (i * es + f) xs
  | [], i, d, _, h, _, _ => by simp at h
  | a :: ds, 0, d, hu, h, hf, he => by
    simp at h; subst h
    have := hu a (by simp)
    rw [List.set_cons_zero, List.flatMap_cons, List.flatMap_cons, he, Nat.zero_mul, Nat.zero_add, setCells_left _ _ _ _ (by omega)]
  | a :: ds, i + 1, d, hu, h, hf, he => by
    have h1 := hu a (by simp)
    have ih := flat_set (fun x hx => hu x (by simp [hx])) (i := i) (d := d) (ds := ds) (by simpa using h) hf he
    rw [List.set_cons_succ, List.flatMap_cons, List.flatMap_cons, ih, Nat.succ_mul, Nat.add_comm (i * es) es, Nat.add_assoc, ← h1, setCells_right]

theorem putElem_cells {d d' : V} {f : Nat} {xs : List V} (h : putElem d f xs = some d') (hp : plainCells xs = true) : cellsV d' = setCells (cellsV d) f xs ∧ f + xs.length ≤ (cellsV d).length := by
  unfold putElem at h
  split at h
  · split at h
    · simp only [Option.some.injEq] at h; subst h
      rename_i hle
      exact ⟨rfl, hle⟩
    · cases h
  · rename_i hne
    have e : cellsV d = [d] := by cases d <;> first | rfl | (exfalso; exact hne _ rfl)
    split at h
    · rename_i x
      simp only [Option.some.injEq] at h; subst h
      rw [e]
      refine ⟨?_, by simp⟩
      simp only [plainCells, Bool.and_true] at hp
      cases x <;> first | rfl | simp [plainCell] at hp
    · cases h

theorem plain_cellsOk : ∀ {xs : List V}, plainCells xs = true → cellsOk xs = true
  | [], _ => rfl
  | x :: xs, h => by
    simp only [plainCells, Bool.and_eq_true] at h
    simp only [cellsOk, Bool.and_eq_true]
    exact ⟨by cases x <;> simp_all [plainCell, cellOk], plain_cellsOk h.2⟩

/-- A row whose cells are written where it lies. -/
theorem write_row (hR : RelH C fid G H w) {l es : Nat} {ds ds' : List V} {h : Home} (hb : G.β l = some h) (hl : H[l]? = some (.row es ds false)) (hn : ds'.length = ds.length)
    (hu' : ∀ d ∈ ds', (cellsV d).length = es) {o : Nat} {ys : List V} {zs : List Value} (hy : VRels fid G w ys zs) (hfit : o + ys.length ≤ ds.length * es)
    (hcells : ∀ vals, VRels fid G w (ds.flatMap cellsV) vals → VRels fid G w (ds'.flatMap cellsV) (vals.take o ++ zs ++ vals.drop (o + zs.length))) {c : Array Value} {e : TypeId} (hc : w.heap[h.b]? = some (.cells c e (0, 0))) :
    ∃ G', RelH C fid G' (H.set l (.row es ds' false)) (w.setRow h.b (c.toList.take o ++ zs ++ c.toList.drop (o + zs.length)).toArray) ∧
      Ext G w G' (w.setRow h.b (c.toList.take o ++ zs ++ c.toList.drop (o + zs.length)).toArray) l H.length := by
  obtain ⟨ob, ho, hr⟩ := hR.obj l h hb
  rw [hl] at ho; cases ho
  obtain ⟨ht, hpos, hf, hes, hu, c', e', vals, rest, hc', hcs, hv, hrel⟩ := hr
  rw [hc] at hc'; cases hc'
  have hx : Ext G w ⟨upd G.β l h, G.I⟩ (w.setRow h.b (c.toList.take o ++ zs ++ c.toList.drop (o + zs.length)).toArray) l H.length :=
    Ext.write hR hb hf rfl (Nat.le_refl _) id rfl (setRow_size _ _) (fun b hne => setRow_other hne _) rfl rfl rfl
  have hfl := flat_length hu
  have hvl := hrel.length
  have hzl := hy.length
  refine ⟨_, ?_, hx⟩
  refine RelH.write hR hb hf rfl hf (Nat.le_refl _) id rfl (setRow_size _ _) (fun b hne => setRow_other hne _) _ ?_
  refine ⟨by rw [ht, hn], by omega, hf, hes, hu', _, e, vals.take o ++ zs ++ vals.drop (o + zs.length), rest, setRow_heap w h.b c _ e _ hc, ?_, ?_, ?_⟩
  · rw [hcs]
    simp only [List.size_toArray, List.length_append, List.length_take, List.length_drop, Array.length_toList]
    have : c.size = vals.length + rest.length := by rw [← Array.length_toList, hv, List.length_append]
    omega
  · rw [List.toList_toArray, hv, List.take_append_of_le_length (by omega), List.drop_append_of_le_length (by omega), List.append_assoc _ _ rest]
  · exact (hcells vals hrel).ext hR hx

theorem storeA_sound (hR : RelH C fid G H w) {t : TypeId} {n : Nat} (hs : C.sizeOf t = some n) {a u : V} {x y : Value} (ha : VRel fid G w a x) (hu : VRel fid G w u y) {l : Nat} (he : storeA H n a u = some (H', l)) :
    ∃ w' G', (Instr.storeAt t x y).run C.P w = .ok () w' ∧ RelH C fid G' H' w' ∧ Ext G w G' w' l H.length ∧ l < H.length ∧ H'.length = H.length := by
  have hsz : ∀ w, (Go.sizeOf t).run C.P w = .ok n w := by
    intro w
    simp only [Ctx.sizeOf, Option.map_eq_some_iff] at hs
    obtain ⟨i, hi, rfl⟩ := hs
    unfold Go.sizeOf
    rw [Sem.run_bind, run_typeInfo (P := C.P) w hi]; rfl
  have hrun : ∀ (b o : Nat) (c : Array Value) (e : TypeId), w.heap[b]? = some (.cells c e (0, 0)) → (cellsV u).length = n → cellsOk (cellsV u) = true → o + n ≤ c.size → x = .pointer (some ⟨b, o, none⟩) →
      (Instr.storeAt t x y).run C.P w = .ok () (w.setRow b (c.toList.take o ++ y.cells.toList ++ c.toList.drop (o + y.cells.toList.length)).toArray) := by
    intro b o c e hc hlen hok hle hx
    obtain ⟨h1, h2⟩ := cells_rel hu hok
    have hl := h1.length
    subst hx
    have hsz' : y.cells.size = n := by rw [← Array.length_toList, hl, hlen]
    simp only [Instr.storeAt, Instr.sureAddr, storeVar, Sem.run_bind, Sem.run_pure, Result.andThen_ok, hsz, hsz', ne_eq, not_true, if_false]
    have := run_storeCells_at C.P b o e y.cells.toList 0 c w hc (by omega) h2
    simpa using this
  unfold storeA at he
  split at he
  · rename_i l' o
    obtain ⟨h0, hb, ht, rfl⟩ := ha.ptrInv
    split at he
    · rename_i vs hl
      split at he
      · rename_i hc
        obtain ⟨hlen, hle, hok⟩ := hc
        simp only [Option.some.injEq, Prod.mk.injEq] at he
        obtain ⟨rfl, rfl⟩ := he
        obtain ⟨ob, ho, hr⟩ := hR.obj l' h0 hb
        rw [hl] at ho; cases ho
        obtain ⟨-, -, c, e, hc, hv⟩ := hr
        have hvl := hv.length
        obtain ⟨h1, h2⟩ := cells_rel hu hok
        obtain ⟨G', r1, r2⟩ := write_cells hR hb hl h1 (by rw [hlen]; exact hle) hc
        exact ⟨_, G', hrun h0.b o c e hc hlen hok (by rw [← Array.length_toList]; omega) rfl, r1, r2, hR.lt hb, by simp⟩
      · cases he
    · cases he
  · rename_i l' es i f tag
    obtain ⟨h0, ad, hb, hle0, had, rfl⟩ := ha.eptrInv
    split at he
    · rename_i es' ds hl
      split at he
      · rename_i hc
        obtain ⟨rfl, htag, hlen, hpl⟩ := hc
        split at he
        · rename_i d hd
          split at he
          · rename_i d' hd'
            simp only [Option.some.injEq, Prod.mk.injEq] at he
            obtain ⟨rfl, rfl⟩ := he
            obtain ⟨ob, ho, hr⟩ := hR.obj l' h0 hb
            rw [hl] at ho; cases ho
            obtain ⟨ht, hpos, hf, hes, huu, c, e, vals, rest, hc, hcs, hv, hrel⟩ := hr
            obtain ⟨p1, p2⟩ := putElem_cells hd' hpl
            have hdl : (cellsV d).length = es' := huu d (List.mem_of_getElem? hd)
            have hok := plain_cellsOk hpl
            obtain ⟨h1, h2⟩ := cells_rel hu hok
            have hi : i < ds.length := by
              obtain ⟨hi, -⟩ := List.getElem?_eq_some_iff.1 hd; exact hi
            have hmul : i * es' + es' ≤ ds.length * es' := by
              have : (i + 1) * es' ≤ ds.length * es' := Nat.mul_le_mul_right _ hi
              rw [Nat.succ_mul] at this; exact this
            have hd'l : (cellsV d').length = es' := by rw [p1, setCells_length, hdl]
            have hfl := flat_length huu
            have hvl := hrel.length
            have hcsz : c.size = vals.length + rest.length := by rw [← Array.length_toList, hv, List.length_append]
            obtain ⟨G', r1, r2⟩ := write_row hR hb hl (ds' := ds.set i d') (by simp)
              (fun a ha => by rcases List.mem_or_eq_of_mem_set ha with q | rfl; exact huu a q; exact hd'l) (o := i * es' + f) h1 (by omega) (fun vals hv => by rw [flat_set huu hd (by omega) p1]; exact setCells_rel _ hv h1 (by omega)) hc
            refine ⟨_, G', hrun h0.b (i * es' + f) c e hc hlen hok (by omega) ?_, r1, r2, hR.lt hb, by simp⟩
            rw [had (ht.trans htag)]
          · cases he
        · cases he
      · cases he
    · cases he
  · cases he

end ops
end Go.Abs
