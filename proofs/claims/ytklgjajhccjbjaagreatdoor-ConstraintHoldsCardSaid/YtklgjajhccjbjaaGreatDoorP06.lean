/- How abstract values and heaps stand to the real memory. 'β': where an abstract object lies; 'I': the blocks that are never written again. -/
import Derived.Test.YtklgjajhccjbjaaGreatDoorP00
import Derived.Laws.World
import Derived.Laws.Cells
import Derived.Laws.CopyRow
import Derived.ChangeKeysEq
import Derived.WalkLawsBesides
import Derived.Laws.StructEq
import Derived.Laws.Append
set_option linter.unusedVariables false
set_option linter.unusedSimpArgs false
namespace Go.Abs
open Go

structure Home where
  b : Nat
  tag : Nat
  csz : Nat
  fz : Bool

structure Gh where
  β : Nat → Option Home
  I : Nat → Prop

def CellsAt (w : World) (b o : Nat) (vals : List Value) : Prop :=
  ∀ (j : Nat) (x : Value), vals[j]? = some x → w.cell? ⟨b, o + j, none⟩ = some x

mutual
inductive PRel (w : World) (I : Nat → Prop) : V → Value → Prop
  | bool (b : Bool) : PRel w I (.bool b) (.bool b)
  | int (k : IntKind) (n : Int) : PRel w I (.int k n) (.int k n)
  | str (s : List UInt8) : PRel w I (.str s) (.string ⟨⟨s⟩⟩)
  | nil0 : PRel w I .nil0 (.slice none 0 0)
  | emp (a : Addr) : PRel w I .emp (.slice (some a) 0 0)
  | list0 (es : Nat) (a : Addr) (cap : Nat) : PRel w I (.list es []) (.slice (some a) 0 cap)
  | list (es : Nat) (ds : List V) (b o cap : Nat) (vals : List Value) (hI : I b) (hc : CellsAt w b o vals) (hu : ∀ d ∈ ds, (cellsV d).length = es)
      (hr : PRels w I (ds.flatMap cellsV) vals) (hl : ds.length ≤ cap) : PRel w I (.list es ds) (.slice (some ⟨b, o, none⟩) ds.length cap)
  | nilp : PRel w I .nilp (.pointer none)
  | nilm : PRel w I .nilm (.map none)
  | nilf : PRel w I .nilf .nilFunc
  | nili : PRel w I .nili .nilIface
  | agg (vs : List V) (vals : List Value) (hr : PRels w I vs vals) : PRel w I (.agg vs) (.agg ⟨vals⟩)
  | tup (vs : List V) (vals : List Value) (hr : PRels w I vs vals) : PRel w I (.tup vs) (.tuple ⟨vals⟩)
  | iface (t : Nat) (v : V) (x : Value) (hr : PRel w I v x) : PRel w I (.iface t v) (.iface t x)
  | fn (i : Nat) (fs cs : List V) (xs ys : List Value) (hf : PRels w I fs xs) (hc : PRels w I cs ys) : PRel w I (.fn i fs cs) (.func (.func i) ⟨xs⟩ ⟨ys⟩)
inductive PRels (w : World) (I : Nat → Prop) : List V → List Value → Prop
  | nil : PRels w I [] []
  | cons (v : V) (x : Value) (vs : List V) (xs : List Value) (h : PRel w I v x) (hs : PRels w I vs xs) : PRels w I (v :: vs) (x :: xs)
end

section
mutual
inductive VRel (fid : Nat → Nat) (G : Gh) (w : World) : V → Value → Prop
  | p (v : V) (x : Value) (h : PRel w G.I v x) : VRel fid G w v x
  | ptr (l o : Nat) (h : Home) (hb : G.β l = some h) (ht : h.tag = 0) : VRel fid G w (.ptr l o) (.pointer (some ⟨h.b, o, none⟩))
  | eptr (l es i f tag : Nat) (h : Home) (a : Addr) (hb : G.β l = some h) (hle : tag ≤ h.tag) (ha : h.tag = tag → a = ⟨h.b, i * es + f, none⟩) :
      VRel fid G w (.eptr l es i f tag) (.pointer (some a))
  | pin (vs : List V) (f b o : Nat) (vals : List Value) (hI : G.I b) (hc : CellsAt w b o vals) (hr : PRels w G.I vs vals) : VRel fid G w (.pin vs f) (.pointer (some ⟨b, o + f, none⟩))
  | sref (l es off len tag : Nat) (h : Home) (a : Addr) (n cap : Nat) (hb : G.β l = some h) (hle : tag ≤ h.tag)
      (ha : h.tag = tag → a = ⟨h.b, off * es, none⟩ ∧ n = len ∧ (off + cap) * es ≤ h.csz ∧ len ≤ cap) : VRel fid G w (.sref l es off len tag) (.slice (some a) n cap)
  | map (l : Nat) (h : Home) (hb : G.β l = some h) (ht : h.tag = 0) : VRel fid G w (.map l) (.map (some h.b))
  | fn (i : Nat) (fs cs : List V) (xs ys : List Value) (hf : VRels fid G w fs xs) (hc : VRels fid G w cs ys) : VRel fid G w (.fn i fs cs) (.func (.func i) ⟨xs⟩ ⟨ys⟩)
  | yield (l : Nat) (h : Home) (hb : G.β l = some h) (ht : h.tag = 0) : VRel fid G w (.yield l) (.func (.yield h.b) #[] #[])
  | agg (vs : List V) (vals : List Value) (hr : VRels fid G w vs vals) : VRel fid G w (.agg vs) (.agg ⟨vals⟩)
  | tup (vs : List V) (vals : List Value) (hr : VRels fid G w vs vals) : VRel fid G w (.tup vs) (.tuple ⟨vals⟩)
  | iface (t : Nat) (v : V) (x : Value) (hr : VRel fid G w v x) : VRel fid G w (.iface t v) (.iface t x)
  | undef (x : Value) : VRel fid G w .undef x
inductive VRels (fid : Nat → Nat) (G : Gh) (w : World) : List V → List Value → Prop
  | nil : VRels fid G w [] []
  | cons (v : V) (x : Value) (vs : List V) (xs : List Value) (h : VRel fid G w v x) (hs : VRels fid G w vs xs) : VRels fid G w (v :: vs) (x :: xs)
end
end

variable {fid : Nat → Nat} {w w' : World} {G G' : Gh} {I I' : Nat → Prop}

theorem cell_of_block {b : Nat} (h : w'.heap[b]? = w.heap[b]?) (o : Nat) : w'.cell? ⟨b, o, none⟩ = w.cell? ⟨b, o, none⟩ := by
  simp [World.cell?, h]

theorem CellsAt.keep {b o : Nat} {vals : List Value} (h : CellsAt w b o vals) (hb : w'.heap[b]? = w.heap[b]?) : CellsAt w' b o vals :=
  fun j x hx => by rw [cell_of_block hb]; exact h j x hx

mutual
theorem PRel.mono (hI : ∀ b, I b → I' b ∧ w'.heap[b]? = w.heap[b]?) : ∀ {v : V} {x : Value}, PRel w I v x → PRel w' I' v x
  | _, _, .bool b => .bool b
  | _, _, .int k n => .int k n
  | _, _, .str s => .str s
  | _, _, .nil0 => .nil0
  | _, _, .emp a => .emp a
  | _, _, .list0 es a cap => .list0 es a cap
  | _, _, .list es ds b o cap vals h hc hu hr hl => .list es ds b o cap vals (hI b h).1 (hc.keep (hI b h).2) hu (PRels.mono hI hr) hl
  | _, _, .nilp => .nilp
  | _, _, .nilm => .nilm
  | _, _, .nilf => .nilf
  | _, _, .nili => .nili
  | _, _, .agg vs vals hr => .agg vs vals (PRels.mono hI hr)
  | _, _, .tup vs vals hr => .tup vs vals (PRels.mono hI hr)
  | _, _, .iface t v x hr => .iface t v x (PRel.mono hI hr)
  | _, _, .fn i fs cs xs ys hf hc => .fn i fs cs xs ys (PRels.mono hI hf) (PRels.mono hI hc)
theorem PRels.mono (hI : ∀ b, I b → I' b ∧ w'.heap[b]? = w.heap[b]?) : ∀ {vs : List V} {xs : List Value}, PRels w I vs xs → PRels w' I' vs xs
  | _, _, .nil => .nil
  | _, _, .cons v x vs xs h hs => .cons v x vs xs (PRel.mono hI h) (PRels.mono hI hs)
end

/-- The homes of β stand in β', moved at most where the tag has grown. -/
def HomesLe (β β' : Nat → Option Home) : Prop :=
  ∀ l h, β l = some h → ∃ h', β' l = some h' ∧ h.tag ≤ h'.tag ∧ (h.tag = 0 → h'.tag = 0) ∧ (h'.tag = h.tag → h'.b = h.b ∧ h'.csz = h.csz) ∧ (h.fz = true → h' = h)

theorem HomesLe.refl (β : Nat → Option Home) : HomesLe β β := fun _ h hb => ⟨h, hb, Nat.le_refl _, id, fun _ => ⟨rfl, rfl⟩, fun _ => rfl⟩

theorem HomesLe.trans {a b c : Nat → Option Home} (h : HomesLe a b) (k : HomesLe b c) : HomesLe a c := by
  intro l h₀ hb
  obtain ⟨h₁, e₁, t₁, z₁, m₁, f₁⟩ := h l h₀ hb
  obtain ⟨h₂, e₂, t₂, z₂, m₂, f₂⟩ := k l h₁ e₁
  refine ⟨h₂, e₂, Nat.le_trans t₁ t₂, fun z => z₂ (z₁ z), fun ht => ?_, fun f => ?_⟩
  · have e : h₁.tag = h₀.tag := by omega
    have e' : h₂.tag = h₁.tag := by omega
    exact ⟨(m₂ e').1.trans (m₁ e).1, (m₂ e').2.trans (m₁ e).2⟩
  · have := f₁ f; subst this; exact f₂ f

mutual
theorem VRel.mono (hH : HomesLe G.β G'.β) (hI : ∀ b, G.I b → G'.I b ∧ w'.heap[b]? = w.heap[b]?) : ∀ {v : V} {x : Value}, VRel fid G w v x → VRel fid G' w' v x
  | _, _, .p v x h => .p v x (PRel.mono hI h)
  | _, _, .ptr l o h hb ht => by
    obtain ⟨h', e, -, z, m, -⟩ := hH l h hb
    have := (m ((z ht).trans ht.symm)).1
    rw [← this]; exact .ptr l o h' e (z ht)
  | _, _, .eptr l es i f tag h a hb hle ha => by
    obtain ⟨h', e, t, z, m, -⟩ := hH l h hb
    refine .eptr l es i f tag h' a e (Nat.le_trans hle t) (fun hx => ?_)
    have ht : h'.tag = h.tag := by omega
    rw [(m ht).1]; exact ha (by omega)
  | _, _, .pin vs f b o vals h hc hr => .pin vs f b o vals (hI b h).1 (hc.keep (hI b h).2) (PRels.mono hI hr)
  | _, _, .sref l es off len tag h a n cap hb hle ha => by
    obtain ⟨h', e, t, z, m, -⟩ := hH l h hb
    refine .sref l es off len tag h' a n cap e (Nat.le_trans hle t) (fun hx => ?_)
    have ht : h'.tag = h.tag := by omega
    rw [(m ht).1, (m ht).2]; exact ha (by omega)
  | _, _, .map l h hb ht => by
    obtain ⟨h', e, -, z, m, -⟩ := hH l h hb
    have := (m ((z ht).trans ht.symm)).1
    rw [← this]; exact .map l h' e (z ht)
  | _, _, .fn i fs cs xs ys hf hc => .fn i fs cs xs ys (VRels.mono hH hI hf) (VRels.mono hH hI hc)
  | _, _, .yield l h hb ht => by
    obtain ⟨h', e, -, z, m, -⟩ := hH l h hb
    have := (m ((z ht).trans ht.symm)).1
    rw [← this]; exact .yield l h' e (z ht)
  | _, _, .agg vs vals hr => .agg vs vals (VRels.mono hH hI hr)
  | _, _, .tup vs vals hr => .tup vs vals (VRels.mono hH hI hr)
  | _, _, .iface t v x hr => .iface t v x (VRel.mono hH hI hr)
  | _, _, .undef x => .undef x
theorem VRels.mono (hH : HomesLe G.β G'.β) (hI : ∀ b, G.I b → G'.I b ∧ w'.heap[b]? = w.heap[b]?) : ∀ {vs : List V} {xs : List Value}, VRels fid G w vs xs → VRels fid G' w' vs xs
  | _, _, .nil => .nil
  | _, _, .cons v x vs xs h hs => .cons v x vs xs (VRel.mono hH hI h) (VRels.mono hH hI hs)
end

mutual
/-- What is old lives on under fewer homes. -/
theorem VRel.restrict {n : Nat} (hH : ∀ l h, l < n → G.β l = some h → ∃ h', G'.β l = some h' ∧ h' = h) (hI : ∀ b, G.I b → G'.I b ∧ w'.heap[b]? = w.heap[b]?) :
    ∀ {v : V} {x : Value}, VRel fid G w v x → old n v = true ∨ (isP v = true) → VRel fid G' w' v x
  | _, _, .p v x h, _ => .p v x (PRel.mono hI h)
  | _, _, .ptr l o h hb ht, ho => by
    obtain ⟨h', e, rfl⟩ := hH l h (by simpa [old, isP] using ho) hb
    exact .ptr l o _ e ht
  | _, _, .eptr l es i f tag h a hb hle ha, ho => by
    obtain ⟨h', e, rfl⟩ := hH l h (by simpa [old, isP] using ho) hb
    exact .eptr l es i f tag _ a e hle ha
  | _, _, .pin vs f b o vals h hc hr, _ => .pin vs f b o vals (hI b h).1 (hc.keep (hI b h).2) (PRels.mono hI hr)
  | _, _, .sref l es off len tag h a n cap hb hle ha, ho => by
    obtain ⟨h', e, rfl⟩ := hH l h (by simpa [old, isP] using ho) hb
    exact .sref l es off len tag _ a n cap e hle ha
  | _, _, .map l h hb ht, ho => by
    obtain ⟨h', e, rfl⟩ := hH l h (by simpa [old, isP] using ho) hb
    exact .map l _ e ht
  | _, _, .fn i fs cs xs ys hf hc, ho => by
    simp only [old, isP, Bool.and_eq_true] at ho
    exact .fn i fs cs xs ys (VRels.restrict hH hI hf (ho.imp And.left And.left)) (VRels.restrict hH hI hc (ho.imp And.right And.right))
  | _, _, .yield l h hb ht, ho => by
    obtain ⟨h', e, rfl⟩ := hH l h (by simpa [old, isP] using ho) hb
    exact .yield l _ e ht
  | _, _, .agg vs vals hr, ho => .agg vs vals (VRels.restrict hH hI hr (by simpa [old, isP] using ho))
  | _, _, .tup vs vals hr, ho => .tup vs vals (VRels.restrict hH hI hr (by simpa [old, isP] using ho))
  | _, _, .iface t v x hr, ho => .iface t v x (VRel.restrict hH hI hr (by simpa [old, isP] using ho))
  | _, _, .undef x, _ => .undef x
theorem VRels.restrict {n : Nat} (hH : ∀ l h, l < n → G.β l = some h → ∃ h', G'.β l = some h' ∧ h' = h) (hI : ∀ b, G.I b → G'.I b ∧ w'.heap[b]? = w.heap[b]?) :
    ∀ {vs : List V} {xs : List Value}, VRels fid G w vs xs → olds n vs = true ∨ isPs vs = true → VRels fid G' w' vs xs
  | _, _, .nil, _ => .nil
  | _, _, .cons v x vs xs h hs, ho => by
    have h1 : old n v = true ∨ isP v = true := by rcases ho with ho | ho <;> simp_all [olds, isPs]
    have h2 : olds n vs = true ∨ isPs vs = true := by rcases ho with ho | ho <;> simp_all [olds, isPs]
    exact .cons v x vs xs (VRel.restrict hH hI h h1) (VRels.restrict hH hI hs h2)
end

mutual
theorem VRel.toP : ∀ {v : V} {x : Value}, VRel fid G w v x → isP v = true → PRel w G.I v x
  | _, _, .p v x h, _ => h
  | _, _, .agg vs vals hr, ho => .agg vs vals (VRels.toP hr (by simpa [isP] using ho))
  | _, _, .tup vs vals hr, ho => .tup vs vals (VRels.toP hr (by simpa [isP] using ho))
  | _, _, .iface t v x hr, ho => .iface t v x (VRel.toP hr (by simpa [isP] using ho))
  | _, _, .fn i fs cs xs ys hf hc, ho => by
    simp only [isP, Bool.and_eq_true] at ho
    exact .fn i fs cs xs ys (VRels.toP hf ho.1) (VRels.toP hc ho.2)
  | _, _, .ptr .., ho | _, _, .eptr .., ho | _, _, .pin .., ho | _, _, .sref .., ho | _, _, .map .., ho | _, _, .yield .., ho | _, _, .undef .., ho => by simp [isP] at ho
theorem VRels.toP : ∀ {vs : List V} {xs : List Value}, VRels fid G w vs xs → isPs vs = true → PRels w G.I vs xs
  | _, _, .nil, _ => .nil
  | _, _, .cons v x vs xs h hs, ho => by
    simp only [isPs, Bool.and_eq_true] at ho
    exact .cons v x vs xs (VRel.toP h ho.1) (VRels.toP hs ho.2)
end

theorem PRels.toV : ∀ {vs : List V} {xs : List Value}, PRels w G.I vs xs → VRels fid G w vs xs
  | _, _, .nil => .nil
  | _, _, .cons v x vs xs h hs => .cons v x vs xs (.p v x h) (PRels.toV hs)

mutual
/-- What is flat stands under whatever homes, in whatever world. -/
theorem PRel.flat : ∀ {v : V} {x : Value}, PRel w I v x → Abs.flat v = true → PRel w' I' v x
  | _, _, .bool b, _ => .bool b
  | _, _, .int k n, _ => .int k n
  | _, _, .str s, _ => .str s
  | _, _, .nil0, _ => .nil0
  | _, _, .emp a, _ => .emp a
  | _, _, .nilp, _ => .nilp
  | _, _, .nilm, _ => .nilm
  | _, _, .nilf, _ => .nilf
  | _, _, .nili, _ => .nili
  | _, _, .agg vs vals hr, h => .agg vs vals (PRels.flat hr (by simpa [Abs.flat] using h))
  | _, _, .tup vs vals hr, h => .tup vs vals (PRels.flat hr (by simpa [Abs.flat] using h))
  | _, _, .list0 .., h | _, _, .list .., h | _, _, .iface .., h | _, _, .fn .., h => by simp [Abs.flat] at h
theorem PRels.flat : ∀ {vs : List V} {xs : List Value}, PRels w I vs xs → flats vs = true → PRels w' I' vs xs
  | _, _, .nil, _ => .nil
  | _, _, .cons v x vs xs h hs, ho => by
    simp only [flats, Bool.and_eq_true] at ho
    exact .cons v x vs xs (PRel.flat h ho.1) (PRels.flat hs ho.2)
end
mutual
theorem flat_isP : ∀ {v : V}, Abs.flat v = true → isP v = true
  | .bool _, _ | .int _ _, _ | .str _, _ | .nil0, _ | .emp, _ | .nilp, _ | .nilm, _ | .nilf, _ | .nili, _ => rfl
  | .agg vs, h => by simp only [isP]; exact flats_isPs (by simpa [Abs.flat] using h)
  | .tup vs, h => by simp only [isP]; exact flats_isPs (by simpa [Abs.flat] using h)
  | .list .., h | .ptr .., h | .eptr .., h | .pin .., h | .sref .., h | .map .., h | .fn .., h | .yield .., h | .iface .., h | .undef, h => by simp [Abs.flat] at h
theorem flats_isPs : ∀ {vs : List V}, flats vs = true → isPs vs = true
  | [], _ => rfl
  | v :: vs, h => by
    simp only [flats, Bool.and_eq_true] at h
    simp only [isPs, Bool.and_eq_true]
    exact ⟨flat_isP h.1, flats_isPs h.2⟩
end
theorem VRel.flat {v : V} {x : Value} (h : VRel fid G w v x) (hf : Abs.flat v = true) : VRel fid G' w' v x := .p _ _ ((h.toP (flat_isP hf)).flat hf)

/-! ### lists -/

theorem VRels.length : ∀ {vs : List V} {xs : List Value}, VRels fid G w vs xs → xs.length = vs.length
  | _, _, .nil => rfl
  | _, _, .cons _ _ _ _ _ hs => by simp [VRels.length hs]

theorem VRels.get : ∀ {vs : List V} {xs : List Value}, VRels fid G w vs xs → ∀ {i : Nat} {v : V}, vs[i]? = some v → ∃ x, xs[i]? = some x ∧ VRel fid G w v x
  | _, _, .nil, i, v, h => by simp at h
  | _, _, .cons v x vs xs h hs, 0, u, e => by simp at e; subst e; exact ⟨x, by simp, h⟩
  | _, _, .cons v x vs xs h hs, i + 1, u, e => by simpa using VRels.get hs (by simpa using e)

theorem VRels.append : ∀ {vs us : List V} {xs ys : List Value}, VRels fid G w vs xs → VRels fid G w us ys → VRels fid G w (vs ++ us) (xs ++ ys)
  | _, _, _, _, .nil, k => k
  | _, _, _, _, .cons v x vs xs h hs, k => .cons v x _ _ h (VRels.append hs k)

theorem VRels.split : ∀ {vs us : List V} {zs : List Value}, VRels fid G w (vs ++ us) zs → ∃ xs ys, zs = xs ++ ys ∧ VRels fid G w vs xs ∧ VRels fid G w us ys
  | [], us, zs, h => ⟨[], zs, rfl, .nil, h⟩
  | v :: vs, us, _, .cons _ x _ xs h hs => by
    obtain ⟨as, bs, rfl, h1, h2⟩ := VRels.split (vs := vs) hs
    exact ⟨x :: as, bs, rfl, .cons v x vs as h h1, h2⟩

theorem VRels.set : ∀ {vs : List V} {xs : List Value}, VRels fid G w vs xs → ∀ (i : Nat) {v : V} {x : Value}, VRel fid G w v x → VRels fid G w (vs.set i v) (xs.set i x)
  | _, _, .nil, _, _, _, _ => .nil
  | _, _, .cons v x vs xs h hs, 0, u, y, k => .cons u y vs xs k hs
  | _, _, .cons v x vs xs h hs, i + 1, u, y, k => .cons v x _ _ h (VRels.set hs i k)

theorem VRels.drop : ∀ {vs : List V} {xs : List Value}, VRels fid G w vs xs → ∀ (n : Nat), VRels fid G w (vs.drop n) (xs.drop n)
  | _, _, h, 0 => by simpa using h
  | _, _, .nil, n + 1 => .nil
  | _, _, .cons v x vs xs h hs, n + 1 => by simpa using VRels.drop hs n

theorem VRels.take : ∀ {vs : List V} {xs : List Value}, VRels fid G w vs xs → ∀ (n : Nat), VRels fid G w (vs.take n) (xs.take n)
  | _, _, h, 0 => by simpa using VRels.nil
  | _, _, .nil, n + 1 => .nil
  | _, _, .cons v x vs xs h hs, n + 1 => .cons v x _ _ h (VRels.take hs n)

theorem VRels.mem_of_forall {vs : List V} {xs : List Value} (hl : xs.length = vs.length) (h : ∀ (i : Nat) v x, vs[i]? = some v → xs[i]? = some x → VRel fid G w v x) : VRels fid G w vs xs := by
  induction vs generalizing xs with
  | nil => cases xs with
    | nil => exact .nil
    | cons => simp at hl
  | cons v vs ih => cases xs with
    | nil => simp at hl
    | cons x xs => exact .cons v x vs xs (h 0 v x rfl rfl) (ih (by simpa using hl) (fun i v x a b => h (i + 1) v x (by simpa using a) (by simpa using b)))

theorem PRels.drop : ∀ {vs : List V} {xs : List Value}, PRels w I vs xs → ∀ (n : Nat), PRels w I (vs.drop n) (xs.drop n)
  | _, _, h, 0 => by simpa using h
  | _, _, .nil, n + 1 => .nil
  | _, _, .cons _ _ _ _ _ hs, n + 1 => by simpa using PRels.drop hs n

theorem PRels.take : ∀ {vs : List V} {xs : List Value}, PRels w I vs xs → ∀ (n : Nat), PRels w I (vs.take n) (xs.take n)
  | _, _, _, 0 => by simpa using PRels.nil
  | _, _, .nil, n + 1 => .nil
  | _, _, .cons v x _ _ h hs, n + 1 => .cons v x _ _ h (PRels.take hs n)

theorem PRels.length {vs : List V} {xs : List Value} (h : PRels w I vs xs) : xs.length = vs.length := VRels.length (fid := id) (G := ⟨fun _ => none, I⟩) (PRels.toV h)

/-! ### objects -/

def pendRel : X → Option Code → Prop
  | .normal, none => True
  | .exit id, some (.exit id') => id' = id
  | .ret, some .ret => True
  | _, _ => False

/-- The stamps of a map's entries: all different, all behind. -/
def Stamps (es : Array MapEntry) (clk : Nat) : Prop := (∀ x ∈ es.toList, x.born < clk) ∧ (es.toList.map (·.born)).Nodup

def ORel (C : Ctx) (fid : Nat → Nat) (G : Gh) (w : World) (h : Home) : AObj → Prop
  | .cells vs => h.tag = 0 ∧ h.fz = false ∧ ∃ c e, w.heap[h.b]? = some (.cells c e (0, 0)) ∧ VRels fid G w vs c.toList
  | .row es ds fz => h.tag = ds.length ∧ 0 < ds.length ∧ h.fz = fz ∧ 0 < es ∧ (∀ d ∈ ds, (cellsV d).length = es) ∧
      ∃ c e vals rest, w.heap[h.b]? = some (.cells c e (0, 0)) ∧ h.csz = c.size ∧ c.toList = vals ++ rest ∧ VRels fid G w (ds.flatMap cellsV) vals
  | .map ents => h.tag = 0 ∧ h.fz = false ∧ ∃ es clk, w.heap[h.b]? = some (.map es clk) ∧
      VRels fid G w (ents.map (·.1)) (es.toList.map (·.key)) ∧ VRels fid G w (ents.map (·.2)) (es.toList.map (·.val)) ∧ Stamps es clk
  | .loop st pend env params assign body => h.tag = 0 ∧ h.fz = false ∧ ∃ L vars, w.heap[h.b]? = some (.loop L) ∧ L.state = st ∧ pendRel pend L.pending ∧
      L.params.toList = params ∧ (∀ t ∈ params, t ∈ vars ∧ t < L.tmps.size) ∧
      C.code vars L.tmps.size L.assign = some assign ∧ C.code vars L.tmps.size L.body = some body ∧ ∀ t ∈ vars, VRel fid G w (lookupE env t) (L.tmps.getD t undef)
  | .gone => h.tag = 0 ∧ h.fz = false

structure RelH (C : Ctx) (fid : Nat → Nat) (G : Gh) (H : Heap) (w : World) : Prop where
  obj : ∀ l h, G.β l = some h → ∃ o, H[l]? = some o ∧ ORel C fid G w h o
  inj : ∀ l l' h h', G.β l = some h → G.β l' = some h' → h.b = h'.b → l = l'
  blk : ∀ l h, G.β l = some h → h.b < w.heap.size
  imm : ∀ b, G.I b → b < w.heap.size ∧ ∀ l h, G.β l = some h → h.b = b → h.fz = true
  fzI : ∀ l h, G.β l = some h → h.fz = true → G.I h.b
  glob : ∀ b o, C.glob b = some o → G.I b ∧ w.heap[b]? = some o

/-- From one state to a later one; objects older than m are as they were; new objects have numbers from n on. -/
structure Ext (G : Gh) (w : World) (G' : Gh) (w' : World) (m n : Nat) : Prop where
  size : w.heap.size ≤ w'.heap.size
  os : w'.os = w.os
  output : w'.output = w.output
  keep : ∀ b, b < w.heap.size → (∀ l h, G.β l = some h → h.b = b → h.fz = true ∨ l < m) → w'.heap[b]? = w.heap[b]?
  homes : HomesLe G.β G'.β
  newH : ∀ l h', G'.β l = some h' → (∃ h, G.β l = some h ∧ (h.b = h'.b ∨ w.heap.size ≤ h'.b)) ∨ (n ≤ l ∧ w.heap.size ≤ h'.b)
  imm : ∀ b, G.I b → G'.I b
  newI : ∀ b, G'.I b → G.I b ∨ w.heap.size ≤ b ∨ ∃ l h, G.β l = some h ∧ h.b = b

theorem Ext.newH' {m n : Nat} (h : Ext G w G' w' m n) (l : Nat) (h' : Home) (e : G'.β l = some h') : (∃ h, G.β l = some h ∧ h.b = h'.b) ∨ w.heap.size ≤ h'.b := by
  rcases h.newH l h' e with ⟨h0, e0, q | q⟩ | ⟨_, q⟩
  · exact .inl ⟨h0, e0, q⟩
  · exact .inr q
  · exact .inr q

theorem Ext.refl (G : Gh) (w : World) (m n : Nat) : Ext G w G w m n :=
  ⟨Nat.le_refl _, rfl, rfl, fun _ _ _ => rfl, .refl _, fun _ h hb => .inl ⟨h, hb, .inl rfl⟩, fun _ h => h, fun _ h => .inl h⟩

theorem Ext.le {m m' n n' : Nat} (h : Ext G w G' w' m n) (hm : m' ≤ m) (hn : n' ≤ n) : Ext G w G' w' m' n' :=
  { h with keep := fun b hb k => h.keep b hb fun l x e1 e2 => (k l x e1 e2).imp id fun q => Nat.lt_of_lt_of_le q hm
           newH := fun l h' e => (h.newH l h' e).imp id fun q => ⟨Nat.le_trans hn q.1, q.2⟩ }

theorem Ext.trans {G'' : Gh} {w'' : World} {m n : Nat} (h : Ext G w G' w' m n) (k : Ext G' w' G'' w'' m n) : Ext G w G'' w'' m n where
  size := Nat.le_trans h.size k.size
  os := k.os.trans h.os
  output := k.output.trans h.output
  keep b hb hk := by
    rw [k.keep b (Nat.lt_of_lt_of_le hb h.size) ?_, h.keep b hb hk]
    intro l h1 e1 e2
    rcases h.newH' l h1 e1 with ⟨h0, e0, eb⟩ | hn
    · rcases hk l h0 e0 (eb.trans e2) with hf | hl
      · obtain ⟨h', e', -, -, -, f'⟩ := h.homes l h0 e0
        rw [e1] at e'; cases e'
        rw [f' hf]; exact .inl hf
      · exact .inr hl
    · omega
  homes := h.homes.trans k.homes
  newH l h2 e := by
    have hs := h.size
    rcases k.newH l h2 e with ⟨h1, e1, eb⟩ | ⟨hn, hb⟩
    · rcases h.newH l h1 e1 with ⟨h0, e0, eb0⟩ | ⟨hn, hb⟩
      · refine .inl ⟨h0, e0, ?_⟩
        rcases eb with eb | eb <;> rcases eb0 with eb0 | eb0
        · exact .inl (eb0.trans eb)
        · exact .inr (by omega)
        · exact .inr (by omega)
        · exact .inr (by omega)
      · exact .inr ⟨hn, by rcases eb with eb | eb <;> omega⟩
    · exact .inr ⟨hn, by omega⟩
  imm b hb := k.imm b (h.imm b hb)
  newI b hb := by
    rcases k.newI b hb with h1 | h1 | ⟨l, h1, e1, eb⟩
    · exact h.newI b h1
    · exact .inr (.inl (Nat.le_trans h.size h1))
    · rcases h.newH' l h1 e1 with ⟨h0, e0, eb0⟩ | hn
      · exact .inr (.inr ⟨l, h0, e0, eb0.trans eb⟩)
      · exact .inr (.inl (by omega))

theorem RelH.keepI {C : Ctx} {H : Heap} {m n : Nat} (hR : RelH C fid G H w) (h : Ext G w G' w' m n) : ∀ b, G.I b → G'.I b ∧ w'.heap[b]? = w.heap[b]? := fun b hb =>
  ⟨h.imm b hb, h.keep b (hR.imm b hb).1 fun l x e1 e2 => .inl ((hR.imm b hb).2 l x e1 e2)⟩

theorem VRel.ext {C : Ctx} {H : Heap} {m n : Nat} (hR : RelH C fid G H w) (h : Ext G w G' w' m n) {v : V} {x : Value} (k : VRel fid G w v x) : VRel fid G' w' v x :=
  k.mono h.homes (hR.keepI h)
theorem VRels.ext {C : Ctx} {H : Heap} {m n : Nat} (hR : RelH C fid G H w) (h : Ext G w G' w' m n) {v : List V} {x : List Value} (k : VRels fid G w v x) : VRels fid G' w' v x :=
  k.mono h.homes (hR.keepI h)

/-- An object whose block, and whose home, are as they were. -/
theorem ORel.mono {C : Ctx} (hH : HomesLe G.β G'.β) (hI : ∀ b, G.I b → G'.I b ∧ w'.heap[b]? = w.heap[b]?) {h : Home} (hb : w'.heap[h.b]? = w.heap[h.b]?) : ∀ {o : AObj}, ORel C fid G w h o → ORel C fid G' w' h o
  | .cells vs, ⟨a, b, c, e, hc, hr⟩ => ⟨a, b, c, e, by rw [hb]; exact hc, hr.mono hH hI⟩
  | .row es ds fz, ⟨a, b, c, d, u, cc, e, vals, rest, hc, hs, hl, hr⟩ => ⟨a, b, c, d, u, cc, e, vals, rest, by rw [hb]; exact hc, hs, hl, hr.mono hH hI⟩
  | .map ents, ⟨a, b, es, clk, hc, hk, hv, hs⟩ => ⟨a, b, es, clk, by rw [hb]; exact hc, hk.mono hH hI, hv.mono hH hI, hs⟩
  | .loop .., ⟨a, b, L, vars, hc, hs, hp, hps, hin, ha, hbd, he⟩ => ⟨a, b, L, vars, by rw [hb]; exact hc, hs, hp, hps, hin, ha, hbd, fun t ht => (he t ht).mono hH hI⟩
  | .gone, h => h

end Go.Abs
/- How the relation between heap and memory lives on: a new object, a written object, a moved row, a frozen row. -/
namespace Go.Abs
open Go
variable {C : Ctx} {fid : Nat → Nat} {w w' : World} {G G' : Gh} {H : Heap}

def upd (β : Nat → Option Home) (l : Nat) (h : Home) : Nat → Option Home := fun x => if x = l then some h else β x

theorem upd_same (β : Nat → Option Home) (l : Nat) (h : Home) : upd β l h l = some h := by simp [upd]
theorem upd_other {β : Nat → Option Home} {l x : Nat} {h : Home} (hx : x ≠ l) : upd β l h x = β x := by simp [upd, hx]

theorem RelH.lt (hR : RelH C fid G H w) {l : Nat} {h : Home} (hb : G.β l = some h) : l < H.length := by
  obtain ⟨o, ho, -⟩ := hR.obj l h hb
  rcases Nat.lt_or_ge l H.length with h' | h'
  · exact h'
  · simp [List.getElem?_eq_none h'] at ho

theorem RelH.none (hR : RelH C fid G H w) {l : Nat} (hl : H.length ≤ l) : G.β l = none := by
  cases hb : G.β l with
  | none => rfl
  | some h => exact absurd (hR.lt hb) (by omega)

theorem alloc_old {o : Obj} {b : Nat} (hb : b < w.heap.size) : (w.alloc o).heap[b]? = w.heap[b]? := by
  show (w.heap.push o)[b]? = _
  rw [Array.getElem?_push, if_neg (by omega)]
theorem alloc_new (w : World) (o : Obj) : (w.alloc o).heap[w.heap.size]? = some o := by
  show (w.heap.push o)[_]? = _
  simp

theorem homes_upd_new {l : Nat} (hn : G.β l = none) (h : Home) : HomesLe G.β (upd G.β l h) := fun x h0 hb => by
  have : x ≠ l := fun e => by subst e; rw [hn] at hb; cases hb
  exact ⟨h0, by rw [upd_other this]; exact hb, Nat.le_refl _, id, fun _ => ⟨rfl, rfl⟩, fun _ => rfl⟩

/-- A world whose heap is the same. -/
theorem RelH.sameHeap (hR : RelH C fid G H w) (h : w'.heap = w.heap) : RelH C fid G H w' where
  obj l x hb := by
    obtain ⟨o, ho, hr⟩ := hR.obj l x hb
    exact ⟨o, ho, hr.mono (.refl _) (fun b hb => ⟨hb, by rw [h]⟩) (by rw [h])⟩
  inj := hR.inj
  blk l x hb := by rw [h]; exact hR.blk l x hb
  imm b hb := by rw [h]; exact hR.imm b hb
  fzI := hR.fzI
  glob b o hg := by rw [h]; exact hR.glob b o hg

theorem Ext.sameHeap (h : w'.heap = w.heap) (ho : w'.os = w.os) (hp : w'.output = w.output) (m n : Nat) : Ext G w G w' m n :=
  ⟨by rw [h]; exact Nat.le_refl _, ho, hp, fun _ _ _ => by rw [h], .refl _, fun _ h hb => .inl ⟨h, hb, .inl rfl⟩, fun _ h => h, fun _ h => .inl h⟩

/-- A new object, in a new block. -/
theorem RelH.push (hR : RelH C fid G H w) (o : AObj) (ob : Obj) (tag csz : Nat)
    (ho : ORel C fid ⟨upd G.β H.length ⟨w.heap.size, tag, csz, false⟩, G.I⟩ (w.alloc ob) ⟨w.heap.size, tag, csz, false⟩ o) :
    RelH C fid ⟨upd G.β H.length ⟨w.heap.size, tag, csz, false⟩, G.I⟩ (H ++ [o]) (w.alloc ob) := by
  have hn := hR.none (Nat.le_refl H.length)
  have hle := homes_upd_new hn ⟨w.heap.size, tag, csz, false⟩
  refine ⟨fun l h hb => ?_, fun l l' h h' e e' q => ?_, fun l h hb => ?_, fun b hb => ?_, fun l h hb hf => ?_, fun b o hg => ⟨(hR.glob b o hg).1, by rw [alloc_old (hR.imm b (hR.glob b o hg).1).1]; exact (hR.glob b o hg).2⟩⟩
  · by_cases hl : l = H.length
    · subst hl
      simp only [upd_same] at hb; cases hb
      exact ⟨o, by simp, ho⟩
    · simp only [upd_other hl] at hb
      obtain ⟨o', e', hr⟩ := hR.obj l h hb
      have := hR.lt hb
      refine ⟨o', by rw [List.getElem?_append_left this]; exact e', hr.mono (G' := ⟨upd G.β H.length _, G.I⟩) hle (fun b hb => ⟨hb, alloc_old (hR.imm b hb).1⟩) (alloc_old (hR.blk l h hb))⟩
  · by_cases hl : l = H.length <;> by_cases hl' : l' = H.length
    · rw [hl, hl']
    · subst hl; simp only [upd_same] at e; cases e
      simp only [upd_other hl'] at e'
      have := hR.blk l' h' e'; simp only at q; omega
    · subst hl'; simp only [upd_same] at e'; cases e'
      simp only [upd_other hl] at e
      have := hR.blk l h e; simp only at q; omega
    · simp only [upd_other hl] at e; simp only [upd_other hl'] at e'
      exact hR.inj l l' h h' e e' q
  · rw [World.size_alloc]
    by_cases hl : l = H.length
    · subst hl; simp only [upd_same] at hb; cases hb; simp
    · simp only [upd_other hl] at hb; have := hR.blk l h hb; omega
  · have hi := hR.imm b hb
    refine ⟨by rw [World.size_alloc]; omega, fun l h e q => ?_⟩
    by_cases hl : l = H.length
    · subst hl; simp only [upd_same] at e; cases e; simp only at q; omega
    · simp only [upd_other hl] at e; exact hi.2 l h e q
  · by_cases hl : l = H.length
    · subst hl; simp only [upd_same] at hb; cases hb; cases hf
    · simp only [upd_other hl] at hb; exact hR.fzI l h hb hf

theorem Ext.push (hR : RelH C fid G H w) (ob : Obj) (tag csz m : Nat) :
    Ext G w ⟨upd G.β H.length ⟨w.heap.size, tag, csz, false⟩, G.I⟩ (w.alloc ob) m H.length where
  size := by simp
  os := rfl
  output := rfl
  keep b hb _ := alloc_old hb
  homes := homes_upd_new (hR.none (Nat.le_refl _)) _
  newH l h hb := by
    by_cases hl : l = H.length
    · subst hl; simp only [upd_same] at hb; cases hb; exact .inr ⟨Nat.le_refl _, Nat.le_refl _⟩
    · simp only [upd_other hl] at hb; exact .inl ⟨h, hb, .inl rfl⟩
  imm _ h := h
  newI _ h := .inl h

/-- An object is written where it lies. -/
theorem RelH.write (hR : RelH C fid G H w) {l : Nat} {h h' : Home} (hb : G.β l = some h) (hf : h.fz = false) (hb' : h'.b = h.b) (hf' : h'.fz = false)
    (htag : h.tag ≤ h'.tag) (hz : h.tag = 0 → h'.tag = 0) (hcs : h'.csz = h.csz) (hs : w'.heap.size = w.heap.size)
    (hkeep : ∀ b, b ≠ h.b → w'.heap[b]? = w.heap[b]?) (o : AObj) (ho : ORel C fid ⟨upd G.β l h', G.I⟩ w' h' o) :
    RelH C fid ⟨upd G.β l h', G.I⟩ (H.set l o) w' := by
  have hlt := hR.lt hb
  have hni : ∀ b, G.I b → b ≠ h.b := fun b hi e => by have := (hR.imm b hi).2 l h hb e.symm; rw [hf] at this; cases this
  have hle : HomesLe G.β (upd G.β l h') := fun x h0 e => by
    by_cases hx : x = l
    · subst hx; rw [hb] at e; cases e
      exact ⟨h', upd_same _ _ _, htag, hz, fun _ => ⟨hb', hcs⟩, fun q => by rw [hf] at q; cases q⟩
    · exact ⟨h0, by rw [upd_other hx]; exact e, Nat.le_refl _, id, fun _ => ⟨rfl, rfl⟩, fun _ => rfl⟩
  refine ⟨fun x h0 e => ?_, fun x y h1 h2 e1 e2 q => ?_, fun x h0 e => ?_, fun b hi => ?_, fun x h0 e q => ?_, fun b o hg => ⟨(hR.glob b o hg).1, by rw [hkeep b (hni b (hR.glob b o hg).1)]; exact (hR.glob b o hg).2⟩⟩
  · by_cases hx : x = l
    · subst hx; simp only [upd_same] at e; cases e
      exact ⟨o, by simp [hlt], ho⟩
    · simp only [upd_other hx] at e
      obtain ⟨o', e', hr⟩ := hR.obj x h0 e
      have hne : h0.b ≠ h.b := fun q => hx (hR.inj x l h0 h e hb q)
      exact ⟨o', by rw [List.getElem?_set_ne (Ne.symm hx)]; exact e', hr.mono (G' := ⟨upd G.β l _, G.I⟩) hle (fun b hi => ⟨hi, hkeep b (hni b hi)⟩) (hkeep _ hne)⟩
  · by_cases hx : x = l <;> by_cases hy : y = l
    · rw [hx, hy]
    · subst hx; simp only [upd_same] at e1; cases e1; simp only [upd_other hy] at e2
      exact hR.inj x y h h2 hb e2 (hb' ▸ q)
    · subst hy; simp only [upd_same] at e2; cases e2; simp only [upd_other hx] at e1
      exact hR.inj x y h1 h e1 hb (hb' ▸ q)
    · simp only [upd_other hx] at e1; simp only [upd_other hy] at e2
      exact hR.inj x y h1 h2 e1 e2 q
  · rw [hs]
    by_cases hx : x = l
    · subst hx; simp only [upd_same] at e; cases e; rw [hb']; exact hR.blk x h hb
    · simp only [upd_other hx] at e; exact hR.blk x h0 e
  · refine ⟨by rw [hs]; exact (hR.imm b hi).1, fun x h0 e q => ?_⟩
    by_cases hx : x = l
    · subst hx; simp only [upd_same] at e; cases e
      exact absurd (q.symm.trans hb') (hni b hi)
    · simp only [upd_other hx] at e; exact (hR.imm b hi).2 x h0 e q
  · by_cases hx : x = l
    · subst hx; simp only [upd_same] at e; cases e; rw [hf'] at q; cases q
    · simp only [upd_other hx] at e; exact hR.fzI x h0 e q

theorem Ext.write (_hR : RelH C fid G H w) {l : Nat} {h h' : Home} (hb : G.β l = some h) (hf : h.fz = false) (hb' : h'.b = h.b)
    (htag : h.tag ≤ h'.tag) (hz : h.tag = 0 → h'.tag = 0) (hcs : h'.csz = h.csz) (hs : w'.heap.size = w.heap.size)
    (hkeep : ∀ b, b ≠ h.b → w'.heap[b]? = w.heap[b]?) (hos : w'.os = w.os) (hp : w'.output = w.output) :
    Ext G w ⟨upd G.β l h', G.I⟩ w' l H.length where
  size := by rw [hs]; exact Nat.le_refl _
  os := hos
  output := hp
  keep b _ k := hkeep b fun e => by
    rcases k l h hb e.symm with q | q
    · rw [hf] at q; cases q
    · omega
  homes x h0 e := by
    by_cases hx : x = l
    · subst hx; rw [hb] at e; cases e
      exact ⟨h', upd_same _ _ _, htag, hz, fun _ => ⟨hb', hcs⟩, fun q => by rw [hf] at q; cases q⟩
    · exact ⟨h0, by simp only [upd_other hx]; exact e, Nat.le_refl _, id, fun _ => ⟨rfl, rfl⟩, fun _ => rfl⟩
  newH x h0 e := by
    by_cases hx : x = l
    · subst hx; simp only [upd_same] at e; cases e; exact .inl ⟨h, hb, .inl hb'.symm⟩
    · simp only [upd_other hx] at e; exact .inl ⟨h0, e, .inl rfl⟩
  imm _ h := h
  newI _ h := .inl h

/-- A row moves into a new block. -/
theorem RelH.move (hR : RelH C fid G H w) {l : Nat} {h : Home} (hb : G.β l = some h) (hf : h.fz = false) (ob : Obj) (tag csz : Nat) (htag : h.tag < tag) (hz : h.tag ≠ 0)
    (o : AObj) (ho : ORel C fid ⟨upd G.β l ⟨w.heap.size, tag, csz, false⟩, G.I⟩ (w.alloc ob) ⟨w.heap.size, tag, csz, false⟩ o) :
    RelH C fid ⟨upd G.β l ⟨w.heap.size, tag, csz, false⟩, G.I⟩ (H.set l o) (w.alloc ob) ∧ Ext G w ⟨upd G.β l ⟨w.heap.size, tag, csz, false⟩, G.I⟩ (w.alloc ob) l H.length := by
  have hlt := hR.lt hb
  have hle : HomesLe G.β (upd G.β l ⟨w.heap.size, tag, csz, false⟩) := fun x h0 e => by
    by_cases hx : x = l
    · subst hx; rw [hb] at e; cases e
      exact ⟨_, upd_same _ _ _, Nat.le_of_lt htag, fun q => absurd q hz, fun q => by simp only at q; omega, fun q => by rw [hf] at q; cases q⟩
    · exact ⟨h0, by rw [upd_other hx]; exact e, Nat.le_refl _, id, fun _ => ⟨rfl, rfl⟩, fun _ => rfl⟩
  refine ⟨⟨fun x h0 e => ?_, fun x y h1 h2 e1 e2 q => ?_, fun x h0 e => ?_, fun b hi => ?_, fun x h0 e q => ?_, fun b o hg => ⟨(hR.glob b o hg).1, by rw [alloc_old (hR.imm b (hR.glob b o hg).1).1]; exact (hR.glob b o hg).2⟩⟩, ⟨by simp, rfl, rfl, fun b hb' _ => alloc_old hb', hle, fun x h0 e => ?_, fun _ h => h, fun _ h => .inl h⟩⟩
  · by_cases hx : x = l
    · subst hx; simp only [upd_same] at e; cases e
      exact ⟨o, by simp [hlt], ho⟩
    · simp only [upd_other hx] at e
      obtain ⟨o', e', hr⟩ := hR.obj x h0 e
      exact ⟨o', by rw [List.getElem?_set_ne (Ne.symm hx)]; exact e', hr.mono (G' := ⟨upd G.β l _, G.I⟩) hle (fun b hi => ⟨hi, alloc_old (hR.imm b hi).1⟩) (alloc_old (hR.blk x h0 e))⟩
  · by_cases hx : x = l <;> by_cases hy : y = l
    · rw [hx, hy]
    · subst hx; simp only [upd_same] at e1; cases e1; simp only [upd_other hy] at e2
      have := hR.blk y h2 e2; simp only at q; omega
    · subst hy; simp only [upd_same] at e2; cases e2; simp only [upd_other hx] at e1
      have := hR.blk x h1 e1; simp only at q; omega
    · simp only [upd_other hx] at e1; simp only [upd_other hy] at e2
      exact hR.inj x y h1 h2 e1 e2 q
  · rw [World.size_alloc]
    by_cases hx : x = l
    · subst hx; simp only [upd_same] at e; cases e; simp
    · simp only [upd_other hx] at e; have := hR.blk x h0 e; omega
  · refine ⟨by rw [World.size_alloc]; have := (hR.imm b hi).1; omega, fun x h0 e q => ?_⟩
    by_cases hx : x = l
    · subst hx; simp only [upd_same] at e; cases e
      have := (hR.imm b hi).1; simp only at q; omega
    · simp only [upd_other hx] at e; exact (hR.imm b hi).2 x h0 e q
  · by_cases hx : x = l
    · subst hx; simp only [upd_same] at e; cases e; cases q
    · simp only [upd_other hx] at e; exact hR.fzI x h0 e q
  · by_cases hx : x = l
    · subst hx; simp only [upd_same] at e; cases e; exact .inl ⟨h, hb, .inr (Nat.le_refl _)⟩
    · simp only [upd_other hx] at e; exact .inl ⟨h0, e, .inl rfl⟩

/-! ### freezing -/

theorem flat_drop {es : Nat} : ∀ {ds : List V}, (∀ d ∈ ds, (cellsV d).length = es) → ∀ (n : Nat), (ds.drop n).flatMap cellsV = (ds.flatMap cellsV).drop (n * es)
  | ds, _, 0 => by simp
  | [], _, n + 1 => by simp
  | d :: ds, h, n + 1 => by
    have h1 := h d (by simp)
    rw [List.drop_succ_cons, flat_drop (fun x hx => h x (by simp [hx])) n, List.flatMap_cons, Nat.succ_mul, Nat.add_comm, ← List.drop_drop]
    congr 1
    rw [List.drop_left' h1]

theorem flat_take {es : Nat} : ∀ {ds : List V}, (∀ d ∈ ds, (cellsV d).length = es) → ∀ (n : Nat), (ds.take n).flatMap cellsV = (ds.flatMap cellsV).take (n * es)
  | ds, _, 0 => by simp
  | [], _, n + 1 => by simp
  | d :: ds, h, n + 1 => by
    have h1 := h d (by simp)
    rw [List.take_succ_cons, List.flatMap_cons, flat_take (fun x hx => h x (by simp [hx])) n, List.flatMap_cons, Nat.succ_mul, List.take_append, h1, List.take_of_length_le (l := cellsV d) (by rw [h1]; exact Nat.le_add_left _ _), Nat.add_sub_cancel]

theorem flat_length {es : Nat} : ∀ {ds : List V}, (∀ d ∈ ds, (cellsV d).length = es) → (ds.flatMap cellsV).length = ds.length * es
  | [], _ => by simp
  | d :: ds, h => by
    rw [List.flatMap_cons, List.length_append, flat_length (fun x hx => h x (by simp [hx])), h d (by simp), List.length_cons, Nat.succ_mul, Nat.add_comm]

theorem isPs_append : ∀ (a b : List V), isPs (a ++ b) = (isPs a && isPs b)
  | [], b => by simp [isPs]
  | v :: a, b => by simp [isPs, isPs_append a b, Bool.and_assoc]

theorem isPs_cells (v : V) (h : isP v = true) : isPs (cellsV v) = true := by
  cases v <;> simp_all [cellsV, isPs, isP]

theorem isPs_flat : ∀ {ds : List V}, isPs ds = true → isPs (ds.flatMap cellsV) = true
  | [], _ => by simp [isPs]
  | d :: ds, h => by
    simp only [isPs, Bool.and_eq_true] at h
    rw [List.flatMap_cons, isPs_append, isPs_cells d h.1, isPs_flat h.2]; rfl

theorem isPs_sub : ∀ {ds : List V}, isPs ds = true → (∀ n, isPs (ds.drop n) = true) ∧ ∀ n, isPs (ds.take n) = true := by
  intro ds h
  constructor
  · intro n
    have : isPs (ds.take n ++ ds.drop n) = true := by rw [List.take_append_drop]; exact h
    rw [isPs_append, Bool.and_eq_true] at this; exact this.2
  · intro n
    have : isPs (ds.take n ++ ds.drop n) = true := by rw [List.take_append_drop]; exact h
    rw [isPs_append, Bool.and_eq_true] at this; exact this.1

theorem cell_of_cells {b o : Nat} {c : Array Value} {e : TypeId} {f : Nat × Nat} (h : w.heap[b]? = some (.cells c e f)) : w.cell? ⟨b, o, none⟩ = c[o]? := by
  simp [World.cell?, h]

theorem CellsAt.of_row {b : Nat} {c : Array Value} {e : TypeId} {f : Nat × Nat} {vals rest : List Value} (h : w.heap[b]? = some (.cells c e f)) (hc : c.toList = vals ++ rest) :
    CellsAt w b 0 vals := by
  intro j x hx
  rw [cell_of_cells h, Nat.zero_add, ← Array.getElem?_toList, hc, List.getElem?_append_left (by
    rcases Nat.lt_or_ge j vals.length with q | q
    · exact q
    · simp [List.getElem?_eq_none q] at hx)]
  exact hx

theorem CellsAt.drop {b o : Nat} {vals : List Value} (h : CellsAt w b o vals) (n : Nat) : CellsAt w b (o + n) (vals.drop n) := by
  intro j x hx
  rw [List.getElem?_drop] at hx
  rw [Nat.add_assoc]; exact h (n + j) x hx
theorem CellsAt.take {b o : Nat} {vals : List Value} (h : CellsAt w b o vals) (n : Nat) : CellsAt w b o (vals.take n) := by
  intro j x hx
  rw [List.getElem?_take] at hx
  split at hx
  · exact h j x hx
  · cases hx

/-- The list that a part of a row is, once nobody writes the row. -/
theorem list_of_row {l es : Nat} {ds : List V} {h : Home} {fz : Bool} (ho : ORel C fid G w h (.row es ds fz)) (hI : G.I h.b) (hp : isPs ds = true) {off len n cap : Nat} {a : Addr}
    (ha : a = ⟨h.b, off * es, none⟩ ∧ n = len ∧ (off + cap) * es ≤ h.csz ∧ len ≤ cap) (hl : off + len ≤ ds.length) :
    PRel w G.I (.list es ((ds.drop off).take len)) (.slice (some a) n cap) := by
  obtain ⟨-, -, -, -, hu, c, e, vals, rest, hc, -, hv, hr⟩ := ho
  obtain ⟨rfl, rfl, -, hcap⟩ := ha
  have hat := (((CellsAt.of_row hc hv).drop (off * es)).take (n * es))
  have hu' : ∀ d ∈ ds.drop off, (cellsV d).length = es := fun d hd => hu d (List.mem_of_mem_drop hd)
  have hlen : ((ds.drop off).take n).length = n := by simp; omega
  have key := PRel.list (w := w) (I := G.I) es ((ds.drop off).take n) h.b (off * es) cap ((vals.drop (off * es)).take (n * es)) hI (by simpa using hat)
    (fun d hd => hu' d (List.mem_of_mem_take hd)) (by
      rw [flat_take hu', flat_drop hu]
      exact ((hr.drop _).take _).toP ((isPs_sub ((isPs_sub (isPs_flat hp)).1 _)).2 _)) (by rw [hlen]; exact hcap)
  rwa [hlen] at key

theorem row_frozen (hR : RelH C fid G H w) {l es : Nat} {ds : List V} (hH : H[l]? = some (.row es ds false)) {h : Home} (hb : G.β l = some h) :
    let G' : Gh := ⟨upd G.β l { h with fz := true }, fun b => G.I b ∨ b = h.b⟩
    RelH C fid G' (H.set l (.row es ds true)) w ∧ Ext G w G' w l H.length ∧ ORel C fid G' w { h with fz := true } (.row es ds true) := by
  intro G'
  obtain ⟨o, ho, hr⟩ := hR.obj l h hb
  rw [hH] at ho; cases ho
  have hf : h.fz = false := hr.2.2.1
  have hle : HomesLe G.β G'.β := fun x h0 e => by
    by_cases hx : x = l
    · subst hx; rw [hb] at e; cases e
      exact ⟨_, upd_same _ _ _, Nat.le_refl _, id, fun _ => ⟨rfl, rfl⟩, fun q => by rw [hf] at q; cases q⟩
    · exact ⟨h0, by show upd _ _ _ _ = _; rw [upd_other hx]; exact e, Nat.le_refl _, id, fun _ => ⟨rfl, rfl⟩, fun _ => rfl⟩
  have hII : ∀ b, G.I b → G'.I b ∧ w.heap[b]? = w.heap[b]? := fun b hi => ⟨.inl hi, rfl⟩
  have hO : ORel C fid G' w { h with fz := true } (.row es ds true) := by
    have := ORel.mono (G' := G') hle hII rfl hr
    exact ⟨this.1, this.2.1, rfl, this.2.2.2⟩
  refine ⟨⟨fun x h0 e => ?_, fun x y h1 h2 e1 e2 q => ?_, fun x h0 e => ?_, fun b hi => ?_, fun x h0 e q => ?_, fun b o hg => ⟨.inl (hR.glob b o hg).1, (hR.glob b o hg).2⟩⟩, ⟨Nat.le_refl _, rfl, rfl, fun _ _ _ => rfl, hle, fun x h0 e => ?_, fun _ h => .inl h, fun b hi => ?_⟩, hO⟩
  · by_cases hx : x = l
    · subst hx; rw [show G'.β = upd _ _ _ from rfl, upd_same] at e; cases e
      exact ⟨_, by simp [hR.lt hb], hO⟩
    · rw [show G'.β = upd _ _ _ from rfl, upd_other hx] at e
      obtain ⟨o', e', hr'⟩ := hR.obj x h0 e
      exact ⟨o', by rw [List.getElem?_set_ne (Ne.symm hx)]; exact e', hr'.mono hle hII rfl⟩
  · have inj' : ∀ z h3, G'.β z = some h3 → ∃ h4, G.β z = some h4 ∧ h4.b = h3.b := fun z h3 e => by
      by_cases hz : z = l
      · subst hz; rw [show G'.β = upd _ _ _ from rfl, upd_same] at e; cases e; exact ⟨h, hb, rfl⟩
      · rw [show G'.β = upd _ _ _ from rfl, upd_other hz] at e; exact ⟨h3, e, rfl⟩
    obtain ⟨h4, e4, b4⟩ := inj' x h1 e1
    obtain ⟨h5, e5, b5⟩ := inj' y h2 e2
    exact hR.inj x y h4 h5 e4 e5 (b4.trans (q.trans b5.symm))
  · by_cases hx : x = l
    · subst hx; rw [show G'.β = upd _ _ _ from rfl, upd_same] at e; cases e; exact hR.blk x h hb
    · rw [show G'.β = upd _ _ _ from rfl, upd_other hx] at e; exact hR.blk x h0 e
  · rcases hi with hi | rfl
    · refine ⟨(hR.imm b hi).1, fun x h0 e q => ?_⟩
      by_cases hx : x = l
      · subst hx; rw [show G'.β = upd _ _ _ from rfl, upd_same] at e; cases e; rfl
      · rw [show G'.β = upd _ _ _ from rfl, upd_other hx] at e; exact (hR.imm b hi).2 x h0 e q
    · refine ⟨hR.blk l h hb, fun x h0 e q => ?_⟩
      by_cases hx : x = l
      · subst hx; rw [show G'.β = upd _ _ _ from rfl, upd_same] at e; cases e; rfl
      · rw [show G'.β = upd _ _ _ from rfl, upd_other hx] at e; exact absurd (hR.inj x l h0 h e hb q) hx
  · by_cases hx : x = l
    · subst hx; rw [show G'.β = upd _ _ _ from rfl, upd_same] at e; cases e; exact .inr rfl
    · rw [show G'.β = upd _ _ _ from rfl, upd_other hx] at e; exact .inl (hR.fzI x h0 e q)
  · by_cases hx : x = l
    · subst hx; rw [show G'.β = upd _ _ _ from rfl, upd_same] at e; cases e; exact .inl ⟨h, hb, .inl rfl⟩
    · rw [show G'.β = upd _ _ _ from rfl, upd_other hx] at e; exact .inl ⟨h0, e, .inl rfl⟩
  · rcases hi with hi | rfl
    · exact .inl hi
    · exact .inr (.inr ⟨l, h, hb, rfl⟩)

/-- What freezing leaves: the world is the same. -/
structure Froze (C : Ctx) (fid : Nat → Nat) (G : Gh) (H : Heap) (w : World) (low : Nat) (G' : Gh) (H' : Heap) (low' : Nat) : Prop where
  rel : RelH C fid G' H' w
  ext : ∀ m, m ≤ low' → Ext G w G' w m H.length
  low : low' ≤ low
  len : H'.length = H.length

theorem Froze.refl (hR : RelH C fid G H w) (low : Nat) : Froze C fid G H w low G H low := ⟨hR, fun _ _ => .refl _ _ _ _, Nat.le_refl _, rfl⟩
theorem Froze.trans {G₁ G₂ : Gh} {H₁ H₂ : Heap} {low low₁ low₂ : Nat} (h : Froze C fid G H w low G₁ H₁ low₁) (k : Froze C fid G₁ H₁ w low₁ G₂ H₂ low₂) : Froze C fid G H w low G₂ H₂ low₂ :=
  ⟨k.rel, fun m hm => (h.ext m (Nat.le_trans hm k.low)).trans ((k.ext m hm).le (Nat.le_refl _) (Nat.le_of_eq h.len.symm)), Nat.le_trans k.low h.low, k.len.trans h.len⟩

theorem RelH.swap (hR : RelH C fid G H w) {l : Nat} {h : Home} (hb : G.β l = some h) {o : AObj} (ho : ORel C fid G w h o) : RelH C fid G (H.set l o) w :=
  ⟨fun x h0 e => by
    by_cases hx : x = l
    · subst hx
      rw [hb] at e; cases e
      exact ⟨o, by simp [hR.lt hb], ho⟩
    · obtain ⟨o', e', hr'⟩ := hR.obj x h0 e
      exact ⟨o', by rw [List.getElem?_set_ne (Ne.symm hx)]; exact e', hr'⟩, hR.inj, hR.blk, hR.imm, hR.fzI, hR.glob⟩

theorem VRel.aggInv {vs : List V} {x : Value} (h : VRel fid G w (.agg vs) x) : ∃ vals, x = .agg ⟨vals⟩ ∧ VRels fid G w vs vals := by
  cases h with
  | p _ _ h => cases h with | agg _ vals hr => exact ⟨vals, rfl, hr.toV⟩
  | agg _ vals hr => exact ⟨vals, rfl, hr⟩
theorem VRel.tupInv {vs : List V} {x : Value} (h : VRel fid G w (.tup vs) x) : ∃ vals, x = .tuple ⟨vals⟩ ∧ VRels fid G w vs vals := by
  cases h with
  | p _ _ h => cases h with | tup _ vals hr => exact ⟨vals, rfl, hr.toV⟩
  | tup _ vals hr => exact ⟨vals, rfl, hr⟩

structure FzV (C : Ctx) (fid : Nat → Nat) (w : World) (f : Heap → Nat → V → Option (V × Heap × Nat)) : Prop where
  ok : ∀ {G : Gh} {H H' : Heap} {low low' : Nat} {v v' : V} {x : Value}, RelH C fid G H w → VRel fid G w v x → f H low v = some (v', H', low') → ∃ G', Froze C fid G H w low G' H' low' ∧ VRel fid G' w v' x
structure FzC (C : Ctx) (fid : Nat → Nat) (w : World) (f : Heap → Nat → V → Option (V × Heap × Nat)) : Prop where
  ok : ∀ {G : Gh} {H H' : Heap} {low low' : Nat} {v v' : V} {zs : List Value}, RelH C fid G H w → VRels fid G w (cellsV v) zs → f H low v = some (v', H', low') →
    ∃ G', Froze C fid G H w low G' H' low' ∧ VRels fid G' w (cellsV v') zs ∧ (cellsV v').length = (cellsV v).length

theorem mapFz_sound {f : Heap → Nat → V → Option (V × Heap × Nat)} (hf : FzV C fid w f) : ∀ {vs vs' : List V} {xs : List Value} {G : Gh} {H H' : Heap} {low low' : Nat}, RelH C fid G H w → VRels fid G w vs xs →
    mapFz f H low vs = some (vs', H', low') → ∃ G', Froze C fid G H w low G' H' low' ∧ VRels fid G' w vs' xs
  | [], _, _, G, H, H', low, low', hR, .nil, he => by
    simp only [mapFz, Option.some.injEq, Prod.mk.injEq] at he
    obtain ⟨rfl, rfl, rfl⟩ := he
    exact ⟨G, .refl hR _, .nil⟩
  | v :: r, _, _, G, H, H', low, low', hR, .cons _ x _ xs hv hs, he => by
    simp only [mapFz] at he
    split at he
    · rename_i v1 H1 low1 h1
      split at he
      · rename_i r2 H2 low2 h2
        simp only [Option.some.injEq, Prod.mk.injEq] at he
        obtain ⟨rfl, rfl, rfl⟩ := he
        obtain ⟨G1, f1, k1⟩ := hf.ok hR hv h1
        obtain ⟨G2, f2, k2⟩ := mapFz_sound hf f1.rel (hs.ext hR (f1.ext 0 (Nat.zero_le _))) h2
        exact ⟨G2, f1.trans f2, .cons _ _ _ _ (k1.ext f1.rel (f2.ext 0 (Nat.zero_le _))) k2⟩
      · cases he
    · cases he

theorem mapFz_cells {f : Heap → Nat → V → Option (V × Heap × Nat)} (hf : FzC C fid w f) : ∀ {vs vs' : List V} {xs : List Value} {G : Gh} {H H' : Heap} {low low' : Nat}, RelH C fid G H w → VRels fid G w (vs.flatMap cellsV) xs →
    mapFz f H low vs = some (vs', H', low') →
    ∃ G', Froze C fid G H w low G' H' low' ∧ VRels fid G' w (vs'.flatMap cellsV) xs ∧ vs'.length = vs.length ∧ ∀ es, (∀ d ∈ vs, (cellsV d).length = es) → ∀ d ∈ vs', (cellsV d).length = es
  | [], _, _, G, H, H', low, low', hR, h, he => by
    simp only [mapFz, Option.some.injEq, Prod.mk.injEq] at he
    obtain ⟨rfl, rfl, rfl⟩ := he
    exact ⟨G, .refl hR _, h, rfl, fun _ h => h⟩
  | v :: r, _, xs, G, H, H', low, low', hR, h, he => by
    simp only [mapFz] at he
    split at he
    · rename_i v1 H1 low1 h1
      split at he
      · rename_i r2 H2 low2 h2
        simp only [Option.some.injEq, Prod.mk.injEq] at he
        obtain ⟨rfl, rfl, rfl⟩ := he
        rw [List.flatMap_cons] at h
        obtain ⟨ys, zs, rfl, hy, hz⟩ := h.split
        obtain ⟨G1, f1, k1, l1⟩ := hf.ok hR hy h1
        obtain ⟨G2, f2, k2, l2, u2⟩ := mapFz_cells hf f1.rel (hz.ext hR (f1.ext 0 (Nat.zero_le _))) h2
        refine ⟨G2, f1.trans f2, ?_, by simp [l2], fun es hu d hd => ?_⟩
        · rw [List.flatMap_cons]; exact (k1.ext f1.rel (f2.ext 0 (Nat.zero_le _))).append k2
        · rcases List.mem_cons.1 hd with rfl | hd
          · rw [l1]; exact hu v (by simp)
          · exact u2 es (fun d hd => hu d (by simp [hd])) d hd
      · cases he
    · cases he

/-- Freezing in cells, out of freezing in values and the aggregates. -/
theorem FzC.of {f : Heap → Nat → V → Option (V × Heap × Nat)} (hv : FzV C fid w f)
    (hone : ∀ {H H' : Heap} {low low' : Nat} {v v' : V}, f H low v = some (v', H', low') → (∀ vs, v ≠ .agg vs) → cellsV v' = [v'])
    (hagg : ∀ {G : Gh} {H H' : Heap} {low low' : Nat} {vs : List V} {v' : V} {zs : List Value}, RelH C fid G H w → VRels fid G w vs zs → f H low (.agg vs) = some (v', H', low') →
      ∃ G' vs', v' = .agg vs' ∧ Froze C fid G H w low G' H' low' ∧ VRels fid G' w vs' zs) : FzC C fid w f := by
  refine ⟨fun {G H H' low low' v v' zs} hR h he => ?_⟩
  by_cases ha : ∃ vs, v = .agg vs
  · obtain ⟨vs, rfl⟩ := ha
    obtain ⟨G', vs', rfl, f1, k1⟩ := hagg hR h he
    exact ⟨G', f1, k1, by have := k1.length; have := h.length; simp only [cellsV] at *; omega⟩
  · have hna : ∀ vs, v ≠ .agg vs := fun vs e => ha ⟨vs, e⟩
    have e : cellsV v = [v] := by cases v <;> first | rfl | (exfalso; exact hna _ rfl)
    rw [e] at h
    cases h with
    | cons _ x _ xs h hs =>
      cases hs
      obtain ⟨G1, f1, k1⟩ := hv.ok hR h he
      rw [hone he hna, e]
      exact ⟨G1, f1, .cons _ _ _ _ k1 .nil, rfl⟩

/-- A row of frozen elements, frozen. -/
theorem row_deep {l es off len tag n cap : Nat} {a : Addr} {h : Home} {ds ds' : List V} {low : Nat} {c : Array Value} {e : TypeId} {vals rest : List Value} (ht : ds.length = tag) (hle : off + len ≤ ds.length)
    {G₁ : Gh} {H₁ : Heap} {low₁ : Nat} {ds₂ : List V} (hb : G.β l = some h) (htag : h.tag = tag) (ha : a = ⟨h.b, off * es, none⟩ ∧ n = len ∧ (off + cap) * es ≤ h.csz ∧ len ≤ cap)
    (hpos : 0 < ds.length) (hes : 0 < es) (hc : w.heap[h.b]? = some (.cells c e (0, 0))) (hsz : h.csz = c.size) (hcv : c.toList = vals ++ rest)
    (hds : VRels fid G₁ w (ds'.flatMap cellsV) vals) (hlen : ds'.length = ds.length)
    (hun : ∀ d ∈ ds', (cellsV d).length = es) (hf : Froze C fid G H w low G₁ H₁ low₁)
    (hl₁ : H₁[l]? = some (.row es ds₂ false)) (ht₂ : ds₂.length = tag) (hp : isPs ds' = true) :
    ∃ G', Froze C fid G H w low G' (H₁.set l (.row es ds' true)) (min low₁ l) ∧ VRel fid G' w (.list es ((ds'.drop off).take len)) (.slice (some a) n cap) := by
  obtain ⟨h', hb', t1, -, m1, -⟩ := (hf.ext 0 (Nat.zero_le _)).homes l h hb
  obtain ⟨o', ho', hr'⟩ := hf.rel.obj l h' hb'
  rw [hl₁] at ho'; cases ho'
  have htag' : h'.tag = h.tag := by rw [hr'.1, ht₂, htag]
  obtain ⟨eb, ec⟩ := m1 htag'
  have hO : ORel C fid G₁ w h' (.row es ds' false) :=
    ⟨by rw [htag', htag, ← ht, hlen], by omega, hr'.2.2.1, hes, hun, c, e, vals, rest, by rw [eb]; exact hc, by rw [ec]; exact hsz, hcv, hds⟩
  have hR₂ := hf.rel.swap hb' hO
  have hlt : l < H₁.length := by
    rcases Nat.lt_or_ge l H₁.length with q | q
    · exact q
    · rw [List.getElem?_eq_none q] at hl₁; cases hl₁
  have hl₂ : (H₁.set l (.row es ds' false))[l]? = some (.row es ds' false) := by simp [hlt]
  obtain ⟨h1, h2, h3⟩ := row_frozen hR₂ hl₂ hb'
  rw [List.set_set] at h1
  have fz : Froze C fid G₁ H₁ w low₁ _ (H₁.set l (.row es ds' true)) (min low₁ l) :=
    ⟨h1, fun m hm => h2.le (Nat.le_trans hm (Nat.min_le_right _ _)) (by simp), Nat.min_le_left _ _, by simp⟩
  refine ⟨_, hf.trans fz, .p _ _ (list_of_row (l := l) h3 (.inr rfl) hp ?_ (by rw [hlen]; exact hle))⟩
  show a = ⟨h'.b, off * es, none⟩ ∧ n = len ∧ (off + cap) * es ≤ h'.csz ∧ len ≤ cap
  rw [eb, ec]; exact ha

theorem freezeD_sound : ∀ (n : Nat), FzV C fid w (freezeD n) ∧ FzC C fid w (freezeD n)
  | 0 => by
    have hv : FzV C fid w (freezeD 0) := by
      refine ⟨fun {G H H' low low' v v' x} hR h he => ?_⟩
      simp only [freezeD] at he
      split at he
      · simp only [Option.some.injEq, Prod.mk.injEq] at he
        obtain ⟨rfl, rfl, rfl⟩ := he
        exact ⟨G, .refl hR _, h⟩
      · cases he
    refine ⟨hv, .of hv (fun {H H' low low' v v'} he hna => ?_) (fun {G H H' low low' vs v' zs} hR h he => ?_)⟩
    · simp only [freezeD] at he
      split at he
      · simp only [Option.some.injEq, Prod.mk.injEq] at he
        obtain ⟨rfl, -, -⟩ := he
        cases v <;> first | rfl | (exfalso; exact hna _ rfl)
      · cases he
    · simp only [freezeD] at he
      split at he
      · simp only [Option.some.injEq, Prod.mk.injEq] at he
        obtain ⟨rfl, rfl, rfl⟩ := he
        exact ⟨G, vs, rfl, .refl hR _, h⟩
      · cases he
  | n + 1 => by
    obtain ⟨ihv, ihc⟩ := freezeD_sound n
    have hv : FzV C fid w (freezeD (n + 1)) := by
      refine ⟨fun {G H H' low low' v v' x} hR h he => ?_⟩
      simp only [freezeD] at he
      split at he
      · simp only [Option.some.injEq, Prod.mk.injEq] at he
        obtain ⟨rfl, rfl, rfl⟩ := he
        exact ⟨G, .refl hR _, h⟩
      · split at he
        · rename_i vs
          split at he
          · rename_i vs' H1 low1 h1
            simp only [Option.some.injEq, Prod.mk.injEq] at he
            obtain ⟨rfl, rfl, rfl⟩ := he
            obtain ⟨vals, rfl, hr⟩ := h.aggInv
            obtain ⟨G1, f1, k1⟩ := mapFz_sound ihv hR hr h1
            exact ⟨G1, f1, .agg _ _ k1⟩
          · cases he
        · rename_i vs
          split at he
          · rename_i vs' H1 low1 h1
            simp only [Option.some.injEq, Prod.mk.injEq] at he
            obtain ⟨rfl, rfl, rfl⟩ := he
            obtain ⟨vals, rfl, hr⟩ := h.tupInv
            obtain ⟨G1, f1, k1⟩ := mapFz_sound ihv hR hr h1
            exact ⟨G1, f1, .tup _ _ k1⟩
          · cases he
        · rename_i l es off len tag _
          split at he
          · rename_i es' ds fz hl
            split at he
            · rename_i hc
              obtain ⟨rfl, ht, hle⟩ := hc
              split at he
              · rename_i hp
                simp only [Option.some.injEq, Prod.mk.injEq] at he
                obtain ⟨rfl, rfl, rfl⟩ := he
                cases h with
                | p _ _ h => cases h
                | sref _ _ _ _ _ h a n cap hb hle' ha =>
                  obtain ⟨o, ho, hr⟩ := hR.obj l h hb
                  rw [hl] at ho; cases ho
                  have htag : h.tag = tag := hr.1.trans ht
                  cases fz with
                  | true =>
                    exact ⟨G, .refl hR _, .p _ _ (list_of_row (l := l) hr (hR.fzI l h hb hr.2.2.1) hp (ha htag) hle)⟩
                  | false =>
                    obtain ⟨h1, h2, h3⟩ := row_frozen hR hl hb
                    exact ⟨_, ⟨h1, fun m hm => h2.le (Nat.le_trans hm (Nat.min_le_right _ _)) (Nat.le_refl _), Nat.min_le_left _ _, by simp⟩, .p _ _ (list_of_row (l := l) h3 (.inr rfl) hp (ha htag) hle)⟩
              · split at he
                · rename_i ds' H1 low1 h1
                  split at he
                  · rename_i es2 ds2 hl2
                    split at he
                    · rename_i hc2
                      obtain ⟨rfl, ht2, hp⟩ := hc2
                      simp only [Option.some.injEq, Prod.mk.injEq] at he
                      obtain ⟨rfl, rfl, rfl⟩ := he
                      cases h with
                      | p _ _ h => cases h
                      | sref _ _ _ _ _ h a n cap hb hle' ha =>
                        obtain ⟨o, ho, hr⟩ := hR.obj l h hb
                        rw [hl] at ho; cases ho
                        have htag : h.tag = tag := hr.1.trans ht
                        obtain ⟨-, hpos, -, hes, hu, c, e, vals, rest, hc, hsz, hcv, hrel⟩ := hr
                        obtain ⟨G1, f1, k1, l1, u1⟩ := mapFz_cells ihc hR hrel h1
                        exact row_deep ht hle hb htag (ha htag) hpos hes hc hsz hcv k1 l1 (u1 _ hu) f1 hl2 ht2 hp
                    · cases he
                  · cases he
                · cases he
            · cases he
          · cases he
        · simp only [Option.some.injEq, Prod.mk.injEq] at he
          obtain ⟨rfl, rfl, rfl⟩ := he
          exact ⟨G, .refl hR _, h⟩
    refine ⟨hv, .of hv (fun {H H' low low' v v'} he hna => ?_) (fun {G H H' low low' vs v' zs} hR h he => ?_)⟩
    · simp only [freezeD] at he
      repeat' split at he
      all_goals first
        | cases he; done
        | (simp only [Option.some.injEq, Prod.mk.injEq] at he; obtain ⟨rfl, -, -⟩ := he; first | rfl | (exfalso; exact hna _ rfl) | (cases v <;> first | rfl | (exfalso; exact hna _ rfl)))
    · simp only [freezeD] at he
      split at he
      · simp only [Option.some.injEq, Prod.mk.injEq] at he
        obtain ⟨rfl, rfl, rfl⟩ := he
        exact ⟨G, vs, rfl, .refl hR _, h⟩
      · split at he
        · rename_i vs' H1 low1 h1
          simp only [Option.some.injEq, Prod.mk.injEq] at he
          obtain ⟨rfl, rfl, rfl⟩ := he
          obtain ⟨G1, f1, k1⟩ := mapFz_sound ihv hR h h1
          exact ⟨G1, vs', rfl, f1, k1⟩
        · cases he

theorem freezeV_sound (hR : RelH C fid G H w) {low low' : Nat} {v v' : V} {x : Value} {H' : Heap} (hv : VRel fid G w v x) (he : freezeV H low v = some (v', H', low')) :
    ∃ G', Froze C fid G H w low G' H' low' ∧ VRel fid G' w v' x := (freezeD_sound 16).1.ok hR hv he
theorem freezeV_cells (hR : RelH C fid G H w) {low low' : Nat} {v v' : V} {zs : List Value} {H' : Heap} (hv : VRels fid G w (cellsV v) zs) (he : freezeV H low v = some (v', H', low')) :
    ∃ G', Froze C fid G H w low G' H' low' ∧ VRels fid G' w (cellsV v') zs ∧ (cellsV v').length = (cellsV v).length := (freezeD_sound 16).2.ok hR hv he

theorem freezeVs_sound : ∀ {vs vs' : List V} {xs : List Value} {G : Gh} {H H' : Heap} {low low' : Nat}, RelH C fid G H w → VRels fid G w vs xs → freezeVs H low vs = some (vs', H', low') →
    ∃ G', Froze C fid G H w low G' H' low' ∧ VRels fid G' w vs' xs
  | [], _, _, G, H, H', low, low', hR, .nil, he => by
    simp only [freezeVs, Option.some.injEq, Prod.mk.injEq] at he
    obtain ⟨rfl, rfl, rfl⟩ := he
    exact ⟨G, .refl hR _, .nil⟩
  | v :: r, _, _, G, H, H', low, low', hR, .cons _ x _ xs hv hs, he => by
    simp only [freezeVs] at he
    split at he
    · rename_i v1 H1 low1 h1
      split at he
      · rename_i r2 H2 low2 h2
        simp only [Option.some.injEq, Prod.mk.injEq] at he
        obtain ⟨rfl, rfl, rfl⟩ := he
        obtain ⟨G1, f1, k1⟩ := freezeV_sound hR hv h1
        obtain ⟨G2, f2, k2⟩ := freezeVs_sound f1.rel (hs.ext hR (f1.ext 0 (Nat.zero_le _))) h2
        exact ⟨G2, f1.trans f2, .cons _ _ _ _ (k1.ext f1.rel (f2.ext 0 (Nat.zero_le _))) k2⟩
      · cases he
    · cases he

end Go.Abs
/- Each operation: where the executor goes on, the machine goes on alike. -/
namespace Go.Abs
open Go
variable {C : Ctx} {fid : Nat → Nat} {w w' : World} {G G' : Gh} {H : Heap}

structure CtxOk (C : Ctx) (fid : Nat → Nat) : Prop where
  f : ∀ f i, C.fidx f = some i → i = f

mutual
theorem constV_sound {I : Nat → Prop} : ∀ (x : Value) {v : V}, constV x = some v → v = .undef ∨ PRel w I v x
  | .bool b, v, h => by simp only [constV, Option.some.injEq] at h; subst h; exact .inr (.bool b)
  | .int k n, v, h => by simp only [constV, Option.some.injEq] at h; subst h; exact .inr (.int k n)
  | .string ⟨⟨s⟩⟩, v, h => by simp only [constV, Option.some.injEq] at h; subst h; exact .inr (.str s)
  | .pointer none, v, h => by simp only [constV, Option.some.injEq] at h; subst h; exact .inr .nilp
  | .slice none 0 0, v, h => by simp only [constV, Option.some.injEq] at h; subst h; exact .inr .nil0
  | .map none, v, h => by simp only [constV, Option.some.injEq] at h; subst h; exact .inr .nilm
  | .nilFunc, v, h => by simp only [constV, Option.some.injEq] at h; subst h; exact .inr .nilf
  | .nilIface, v, h => by simp only [constV, Option.some.injEq] at h; subst h; exact .inr .nili
  | .agg ⟨vs⟩, v, h => by
    simp only [constV, Option.map_eq_some_iff] at h
    obtain ⟨us, hu, rfl⟩ := h
    exact .inr (.agg us vs (constVs_sound vs hu))
  | .tuple ⟨[]⟩, v, h => by simp only [constV, Option.some.injEq] at h; subst h; exact .inl rfl
  | .tuple ⟨_ :: _⟩, v, h => by simp [constV] at h
  | .slice none (n + 1) _, v, h => by simp [constV] at h
  | .slice none 0 (n + 1), v, h => by simp [constV] at h
  | .pointer (some _), v, h | .slice (some _) _ _, v, h | .map (some _), v, h | .float .., v, h | .complex .., v, h | .chan .., v, h | .func .., v, h | .iface .., v, h => by simp [constV] at h
theorem constVs_sound {I : Nat → Prop} : ∀ (xs : List Value) {vs : List V}, constVs xs = some vs → PRels w I vs xs
  | [], vs, h => by simp only [constVs, Option.some.injEq] at h; subst h; exact .nil
  | x :: r, vs, h => by
    simp only [constVs] at h
    split at h
    · rename_i v hv
      split at h
      · cases h
      · simp only [Option.map_eq_some_iff] at h
        obtain ⟨us, hu, rfl⟩ := h
        exact .cons v x us r ((constV_sound x hv).resolve_left (by rintro rfl; simp_all [isU])) (constVs_sound r hu)
    · cases h
end

/-- The operands' values. -/
def OpdRel (C : Ctx) (fid : Nat → Nat) (vars : List Nat) (G : Gh) (w : World) (ev : Opd → V) (ρ : Operand → Value) : Prop :=
  ∀ x ax, C.opd vars x = some ax → VRel fid G w (ev ax) (ρ x)

/-- What an operation has come to. -/
def Did (C : Ctx) (fid : Nat → Nat) (G : Gh) (H : Heap) (w : World) (low0 : Nat) (r : Result Next) (v : V) (H' : Heap) (low' : Nat) : Prop :=
  ∃ x w' G', (r = .ok (.value x) w' ∨ (r = .ok .skip w' ∧ x = undef)) ∧ RelH C fid G' H' w' ∧ (∀ m, m ≤ low' → Ext G w G' w' m H.length) ∧ VRel fid G' w' v x ∧ low' ≤ low0 ∧ H.length ≤ H'.length

theorem Did.same (hR : RelH C fid G H w) {low : Nat} {r : Result Next} {v : V} {x : Value} (hr : r = .ok (.value x) w) (hv : VRel fid G w v x) : Did C fid G H w low r v H low :=
  ⟨x, w, G, .inl hr, hR, fun _ _ => .refl _ _ _ _, hv, Nat.le_refl _, Nat.le_refl _⟩

theorem Did.alloc (hR : RelH C fid G H w) {low : Nat} {r : Result Next} {v : V} {x : Value} {o : AObj} {ob : Obj} (tag csz : Nat) (hr : r = .ok (.value x) (w.alloc ob))
    (ho : ORel C fid ⟨upd G.β H.length ⟨w.heap.size, tag, csz, false⟩, G.I⟩ (w.alloc ob) ⟨w.heap.size, tag, csz, false⟩ o)
    (hv : VRel fid ⟨upd G.β H.length ⟨w.heap.size, tag, csz, false⟩, G.I⟩ (w.alloc ob) v x) : Did C fid G H w low r v (H ++ [o]) low :=
  ⟨x, _, _, .inl hr, hR.push o ob tag csz ho, fun m _ => .push hR ob tag csz m, hv, Nat.le_refl _, by simp⟩

theorem Did.afterFreeze {low low1 : Nat} {G1 : Gh} {H1 : Heap} (f : Froze C fid G H w low G1 H1 low1) {r : Result Next} {v : V} {H' : Heap} {low' : Nat} (h : Did C fid G1 H1 w low1 r v H' low') :
    Did C fid G H w low r v H' low' := by
  obtain ⟨x, w', G', hr, hR, he, hv, hl, hn⟩ := h
  refine ⟨x, w', G', hr, hR, fun m hm => (f.ext m (Nat.le_trans hm hl)).trans ((he m hm).le (Nat.le_refl _) (Nat.le_of_eq f.len.symm)), hv, Nat.le_trans hl f.low, by have := f.len; omega⟩

section ops
variable {vars : List Nat} {ev : Opd → V} {ρ : Operand → Value} {low low' : Nat} {v : V} {H' : Heap} {pos : String} {aop : AOp} {o : Oper}

theorem opd_func (hC : CtxOk C fid) {f : FuncId} {ax : Opd} (h : C.opd vars (.func f) = some ax) {tE vE : Env} : VRel fid G w (ax.ev tE vE) (.func (.func f) #[] #[]) := by
  simp only [Ctx.opd, Option.map_eq_some_iff] at h
  obtain ⟨i, hi, rfl⟩ := h
  have e := hC.f f i hi
  subst e
  exact VRel.fn (fid := fid) (G := G) (w := w) i [] [] [] [] .nil .nil

theorem VRel.boolInv {x : Value} {b : Bool} (h : VRel fid G w (.bool b) x) : x = .bool b := by
  cases h with | p _ _ h => cases h; rfl
theorem VRel.intInv {x : Value} {k : IntKind} {n : Int} (h : VRel fid G w (.int k n) x) : x = .int k n := by
  cases h with | p _ _ h => cases h; rfl
theorem VRel.strInv {x : Value} {s : List UInt8} (h : VRel fid G w (.str s) x) : x = .string ⟨⟨s⟩⟩ := by
  cases h with | p _ _ h => cases h; rfl
theorem VRel.ptrInv {x : Value} {l o : Nat} (h : VRel fid G w (.ptr l o) x) : ∃ h, G.β l = some h ∧ h.tag = 0 ∧ x = .pointer (some ⟨h.b, o, none⟩) := by
  cases h with
  | p _ _ h => cases h
  | ptr _ _ h hb ht => exact ⟨h, hb, ht, rfl⟩
theorem VRel.mapInv {x : Value} {l : Nat} (h : VRel fid G w (.map l) x) : ∃ h, G.β l = some h ∧ h.tag = 0 ∧ x = .map (some h.b) := by
  cases h with
  | p _ _ h => cases h
  | map _ h hb ht => exact ⟨h, hb, ht, rfl⟩
theorem VRel.eptrInv {x : Value} {l es i f tag : Nat} (h : VRel fid G w (.eptr l es i f tag) x) :
    ∃ h a, G.β l = some h ∧ tag ≤ h.tag ∧ (h.tag = tag → a = ⟨h.b, i * es + f, none⟩) ∧ x = .pointer (some a) := by
  cases h with
  | p _ _ h => cases h
  | eptr _ _ _ _ _ h a hb hle ha => exact ⟨h, a, hb, hle, ha, rfl⟩
theorem VRel.pinInv {x : Value} {vs : List V} {f : Nat} (h : VRel fid G w (.pin vs f) x) :
    ∃ b o vals, G.I b ∧ CellsAt w b o vals ∧ PRels w G.I vs vals ∧ x = .pointer (some ⟨b, o + f, none⟩) := by
  cases h with
  | p _ _ h => cases h
  | pin _ _ b o vals hI hc hr => exact ⟨b, o, vals, hI, hc, hr, rfl⟩
theorem VRel.srefInv {x : Value} {l es off len tag : Nat} (h : VRel fid G w (.sref l es off len tag) x) :
    ∃ h a n cap, G.β l = some h ∧ tag ≤ h.tag ∧ (h.tag = tag → a = ⟨h.b, off * es, none⟩ ∧ n = len ∧ (off + cap) * es ≤ h.csz ∧ len ≤ cap) ∧ x = .slice (some a) n cap := by
  cases h with
  | p _ _ h => cases h
  | sref _ _ _ _ _ h a n cap hb hle ha => exact ⟨h, a, n, cap, hb, hle, ha, rfl⟩
theorem VRel.fnInv {x : Value} {i : Nat} {fs cs : List V} (h : VRel fid G w (.fn i fs cs) x) :
    ∃ xs ys, VRels fid G w fs xs ∧ VRels fid G w cs ys ∧ x = .func (.func i) ⟨xs⟩ ⟨ys⟩ := by
  cases h with
  | p _ _ h => cases h with | fn _ _ _ xs ys hf hc => exact ⟨xs, ys, PRels.toV hf, PRels.toV hc, rfl⟩
  | fn _ _ _ xs ys hf hc => exact ⟨xs, ys, hf, hc, rfl⟩
theorem VRel.yieldInv {x : Value} {l : Nat} (h : VRel fid G w (.yield l) x) : ∃ h, G.β l = some h ∧ h.tag = 0 ∧ x = .func (.yield h.b) #[] #[] := by
  cases h with
  | p _ _ h => cases h
  | yield _ h hb ht => exact ⟨h, hb, ht, rfl⟩

/-! reading -/

theorem VRels.readCells {cs : List V} {xs : List Value} (h : VRels fid G w cs xs) {o : Nat} {sh : Option Nat} {u : V} (hr : Abs.readCells cs o sh = some u) :
    match sh with
    | none => ∃ x, xs[o]? = some x ∧ VRel fid G w u x
    | some n => o + n ≤ xs.length ∧ VRel fid G w u (.agg ⟨(xs.drop o).take n⟩) := by
  cases sh with
  | none => exact h.get hr
  | some n =>
    simp only [Abs.readCells] at hr
    split at hr
    · rename_i hle
      simp only [Option.some.injEq] at hr
      subst hr
      exact ⟨by rw [h.length]; exact hle, .agg _ _ ((h.drop o).take n)⟩
    · cases hr

theorem shape_run {t : TypeId} {sh : Option Nat} (h : C.shapeOf t = some sh) :
    (∃ n, sh = some n ∧ (∀ w, (isAgg t).run C.P w = .ok true w) ∧ ∀ w, (Go.sizeOf t).run C.P w = .ok n w) ∨ (sh = none ∧ ∀ w, (isAgg t).run C.P w = .ok false w) := by
  unfold Ctx.shapeOf at h
  have key : ∀ d, C.P.underlying t = some d → ∀ w, (isAgg t).run C.P w = .ok (match d with | .struct _ | .array _ _ => true | _ => false) w := by
    intro d hd w
    unfold isAgg
    rw [Sem.run_bind, run_underlying hd]
    cases d <;> rfl
  have sz : ∀ n, C.sizeOf t = some n → ∀ w, (Go.sizeOf t).run C.P w = .ok n w := by
    intro n hn w
    simp only [Ctx.sizeOf, Option.map_eq_some_iff] at hn
    obtain ⟨i, hi, rfl⟩ := hn
    unfold Go.sizeOf
    rw [Sem.run_bind, run_typeInfo (P := C.P) w hi]; rfl
  cases hd : C.P.underlying t with
  | none => rw [hd] at h; cases h
  | some d =>
    rw [hd] at h
    have hk := key d hd
    cases d <;> simp only [Option.some.injEq, Option.map_eq_some_iff] at h <;>
      first
        | exact .inr ⟨h.symm, hk⟩
        | (obtain ⟨n, hn, rfl⟩ := h; exact .inl ⟨n, rfl, hk, sz n hn⟩)

theorem run_loadVar_at {t : TypeId} {sh : Option Nat} (h : C.shapeOf t = some sh) {b o : Nat} {cs : List V} {vals : List Value} {f : Nat} (hc : CellsAt w b o vals) (hv : VRels fid G w cs vals) {u : V}
    (hr : Abs.readCells cs f sh = some u) : ∃ x, (loadVar t ⟨b, o + f, none⟩).run C.P w = .ok x w ∧ VRel fid G w u x := by
  have hk := hv.readCells hr
  rcases shape_run h with ⟨n, rfl, ha, hs⟩ | ⟨rfl, ha⟩
  · obtain ⟨hle, hu⟩ := hk
    refine ⟨_, ?_, hu⟩
    have hcs : ∀ (j : Nat) (x : Value), ((vals.drop f).take n)[j]? = some x → w.cell? (Addr.add ⟨b, o + f, none⟩ j) = some x := by
      intro j x hx
      rw [Addr.add_lit]
      rw [List.getElem?_take] at hx
      split at hx
      · rw [List.getElem?_drop] at hx; rw [Nat.add_assoc]; exact hc _ _ hx
      · cases hx
    have hl := run_loadCells_list (P := C.P) w ⟨b, o + f, none⟩ _ hcs
    have hlen : ((vals.drop f).take n).length = n := by simp; omega
    rw [hlen] at hl
    unfold loadVar
    simp only [Sem.run_bind, ha, hs, Result.andThen_ok, if_true, hl, Sem.run_pure]
  · obtain ⟨x, hx, hu⟩ := hk
    refine ⟨x, ?_, hu⟩
    unfold loadVar
    simp only [Sem.run_bind, ha, Result.andThen_ok, Bool.false_eq_true, if_false, run_load, hc f x hx]

theorem loadA_sound (hR : RelH C fid G H w) {t : TypeId} {sh : Option Nat} (h : C.shapeOf t = some sh) {a u : V} {x : Value} (ha : VRel fid G w a x) (he : loadA H sh a = some u) :
    ∃ y, (Instr.loadAt t x).run C.P w = .ok y w ∧ VRel fid G w u y := by
  unfold loadA at he
  split at he
  · rename_i l o
    obtain ⟨h0, hb, ht, rfl⟩ := ha.ptrInv
    split at he
    · rename_i vs hl
      obtain ⟨ob, ho, hr⟩ := hR.obj l h0 hb
      rw [hl] at ho; cases ho
      obtain ⟨-, -, c, e, hc, hv⟩ := hr
      obtain ⟨y, hy, hu⟩ := run_loadVar_at (o := 0) h (CellsAt.of_row (vals := c.toList) (rest := []) hc (by simp)) hv he
      rw [Nat.zero_add] at hy
      exact ⟨y, by simp only [Instr.loadAt, Instr.sureAddr, Sem.run_bind, Sem.run_pure, Result.andThen_ok, hy], hu⟩
    · cases he
  · rename_i l es i f tag
    obtain ⟨h0, ad, hb, hle, had, rfl⟩ := ha.eptrInv
    split at he
    · rename_i es' ds fz hl
      split at he
      · rename_i hc
        obtain ⟨rfl, htag⟩ := hc
        obtain ⟨ob, ho, hr⟩ := hR.obj l h0 hb
        rw [hl] at ho; cases ho
        obtain ⟨ht, -, -, -, hu, c, e, vals, rest, hc, hcs, hv, hrel⟩ := hr
        obtain ⟨d, hd, hrd⟩ := Option.bind_eq_some_iff.1 he
        have hdl : (cellsV d).length = es' := hu d (List.mem_of_getElem? hd)
        have hrel' : VRels fid G w (cellsV d) ((vals.drop (i * es')).take es') := by
          have h1 : (ds.drop i).flatMap cellsV = (ds.flatMap cellsV).drop (i * es') := flat_drop hu i
          have h2 : ds.drop i = d :: ds.drop (i + 1) := by
            obtain ⟨hi, rfl⟩ := List.getElem?_eq_some_iff.1 hd
            exact List.drop_eq_getElem_cons hi
          have h3 := (hrel.drop (i * es')).take es'
          rw [← h1, h2, List.flatMap_cons, List.take_append, hdl, Nat.sub_self, List.take_zero, List.append_nil, List.take_of_length_le (by omega)] at h3
          exact h3
        have hat : CellsAt w h0.b (i * es') ((vals.drop (i * es')).take es') := by
          have := ((CellsAt.of_row hc hv).drop (i * es')).take es'
          rwa [Nat.zero_add] at this
        obtain ⟨y, hy, huy⟩ := run_loadVar_at h hat hrel' hrd
        rw [had (ht.trans htag)]
        exact ⟨y, by simp only [Instr.loadAt, Instr.sureAddr, Sem.run_bind, Sem.run_pure, Result.andThen_ok, hy], huy⟩
      · cases he
    · cases he
  · rename_i vs f
    obtain ⟨b, o, vals, hI, hc, hr, rfl⟩ := ha.pinInv
    obtain ⟨y, hy, hu⟩ := run_loadVar_at h hc (PRels.toV (fid := fid) hr) he
    exact ⟨y, by simp only [Instr.loadAt, Instr.sureAddr, Sem.run_bind, Sem.run_pure, Result.andThen_ok, hy], hu⟩
  · cases he

/-! writing -/

theorem oneCell_of_rel {c : V} {x : Value} (h : VRel fid G w c x) (hc : cellOk c = true) : x.oneCell' = true := by
  cases h with
  | p _ _ h => cases h <;> first | rfl | simp [cellOk] at hc
  | agg => simp [cellOk] at hc
  | tup => simp [cellOk] at hc
  | undef => simp [cellOk] at hc
  | _ => rfl

theorem oneCells_of_rel : ∀ {cs : List V} {xs : List Value}, VRels fid G w cs xs → cellsOk cs = true → ∀ x ∈ xs, x.oneCell' = true
  | _, _, .nil, _, x, hx => by simp at hx
  | _, _, .cons v y vs ys h hs, hc, x, hx => by
    simp only [cellsOk, Bool.and_eq_true] at hc
    rcases List.mem_cons.1 hx with rfl | hx
    · exact oneCell_of_rel h hc.1
    · exact oneCells_of_rel hs hc.2 x hx

theorem cells_rel {v : V} {y : Value} (h : VRel fid G w v y) (hc : cellsOk (cellsV v) = true) : VRels fid G w (cellsV v) y.cells.toList ∧ ∀ c ∈ y.cells.toList, c.oneCell' = true := by
  by_cases hv : ∃ vs, v = .agg vs
  · obtain ⟨vs, rfl⟩ := hv
    obtain ⟨vals, rfl, hr⟩ := h.aggInv
    exact ⟨hr, oneCells_of_rel hr hc⟩
  · have e : cellsV v = [v] := by
      cases v <;> first | rfl | (exfalso; exact hv ⟨_, rfl⟩)
    rw [e] at hc ⊢
    have h1 : y.oneCell' = true := oneCell_of_rel h (by simpa [cellsOk] using hc)
    have e' : y.cells = #[y] := by cases y <;> first | rfl | simp [Value.oneCell'] at h1
    rw [e']
    exact ⟨.cons _ _ _ _ h .nil, fun c hc => by simp at hc; subst hc; exact h1⟩

theorem setCells_rel : ∀ {ys : List V} {zs : List Value} {cs : List V} {xs : List Value} (o : Nat), VRels fid G w cs xs → VRels fid G w ys zs → o + ys.length ≤ cs.length →
    VRels fid G w (setCells cs o ys) (xs.take o ++ zs ++ xs.drop (o + zs.length))
  | _, _, cs, xs, o, h, .nil, _ => by simpa [setCells] using h
  | _, _, cs, xs, o, h, .cons y z ys zs hy hs, hl => by
    have hlen := h.length
    simp only [List.length_cons] at hl
    have ih := setCells_rel (o + 1) (h.set o hy) hs (by simp; omega)
    simp only [setCells]
    have e := list_seg_step xs o z zs (by have := hs.length; omega)
    rw [← List.length_cons (a := z)] at e
    rw [← e]; exact ih

theorem setCells_length : ∀ (ys cs : List V) (o : Nat), (setCells cs o ys).length = cs.length
  | [], cs, o => rfl
  | y :: ys, cs, o => by rw [setCells, setCells_length ys]; simp

theorem setRow_other {g b : Nat} (hb : b ≠ g) (c : Array Value) : (w.setRow g c).heap[b]? = w.heap[b]? := by
  unfold World.setRow
  simp only [Array.getElem?_modify]
  rw [if_neg (by omega)]

theorem setRow_size (g : Nat) (c : Array Value) : (w.setRow g c).heap.size = w.heap.size := by
  unfold World.setRow; simp

/-- A written object of cells. -/
theorem write_cells (hR : RelH C fid G H w) {l : Nat} {h : Home} {vs ys : List V} (hb : G.β l = some h) (hl : H[l]? = some (.cells vs)) {o : Nat} {zs : List Value} (hy : VRels fid G w ys zs)
    (hfit : o + ys.length ≤ vs.length) {c : Array Value} {e : TypeId} (hc : w.heap[h.b]? = some (.cells c e (0, 0))) :
    ∃ G', RelH C fid G' (H.set l (.cells (setCells vs o ys))) (w.setRow h.b (c.toList.take o ++ zs ++ c.toList.drop (o + zs.length)).toArray) ∧
      Ext G w G' (w.setRow h.b (c.toList.take o ++ zs ++ c.toList.drop (o + zs.length)).toArray) l H.length := by
  obtain ⟨ob, ho, hr⟩ := hR.obj l h hb
  rw [hl] at ho; cases ho
  obtain ⟨ht, hf, c', e', hc', hv⟩ := hr
  rw [hc] at hc'; cases hc'
  refine ⟨⟨upd G.β l h, G.I⟩, ?_, ?_⟩
  · refine RelH.write hR hb hf rfl hf (Nat.le_refl _) id rfl (setRow_size _ _) (fun b hne => setRow_other hne _) _ ?_
    refine ⟨ht, hf, _, e, setRow_heap w h.b c _ e _ hc, ?_⟩
    have hx : Ext G w ⟨upd G.β l h, G.I⟩ (w.setRow h.b (c.toList.take o ++ zs ++ c.toList.drop (o + zs.length)).toArray) l H.length :=
      Ext.write hR hb hf rfl (Nat.le_refl _) id rfl (setRow_size _ _) (fun b hne => setRow_other hne _) rfl rfl
    exact ((setCells_rel o hv hy hfit).ext hR hx)
  · exact Ext.write hR hb hf rfl (Nat.le_refl _) id rfl (setRow_size _ _) (fun b hne => setRow_other hne _) rfl rfl

theorem setCells_left : ∀ (xs a b : List V) (o : Nat), o + xs.length ≤ a.length → setCells (a ++ b) o xs = setCells a o xs ++ b
  | [], _, _, _, _ => rfl
  | x :: xs, a, b, o, h => by
    simp only [List.length_cons] at h
    rw [setCells, setCells, List.set_append_left _ _ (by omega), setCells_left xs _ b (o + 1) (by simp; omega)]
theorem setCells_right : ∀ (xs a b : List V) (o : Nat), setCells (a ++ b) (a.length + o) xs = a ++ setCells b o xs
  | [], _, _, _ => rfl
  | x :: xs, a, b, o => by
    rw [setCells, setCells, List.set_append_right _ _ (by omega), Nat.add_sub_cancel_left, Nat.add_assoc, setCells_right xs a]

theorem flat_set {es : Nat} {d' : V} {f : Nat} {xs : List V} : ∀ {ds : List V} {i : Nat} {d : V}, (∀ d ∈ ds, (cellsV d).length = es) → ds[i]? = some d → f + xs.length ≤ es → cellsV d' = setCells (cellsV d) f xs →
    (ds.set i d').flatMap cellsV = setCells (ds.flatMap cellsV) (i * es + f) xs
  | [], i, d, _, h, _, _ => by simp at h
  | a :: ds, 0, d, hu, h, hf, he => by
    simp at h; subst h
    have := hu a (by simp)
    rw [List.set_cons_zero, List.flatMap_cons, List.flatMap_cons, he, Nat.zero_mul, Nat.zero_add, setCells_left _ _ _ _ (by omega)]
  | a :: ds, i + 1, d, hu, h, hf, he => by
    have h1 := hu a (by simp)
    have ih := flat_set (fun x hx => hu x (by simp [hx])) (i := i) (d := d) (ds := ds) (by simpa using h) hf he
    rw [List.set_cons_succ, List.flatMap_cons, List.flatMap_cons, ih, Nat.succ_mul, Nat.add_comm (i * es) es, Nat.add_assoc, ← h1, setCells_right]

theorem putElem_cells {d d' : V} {f : Nat} {xs : List V} (h : putElem d f xs = some d') (hp : plainCells xs = true) : cellsV d' = setCells (cellsV d) f xs ∧ f + xs.length ≤ (cellsV d).length := by
  unfold putElem at h
  split at h
  · split at h
    · simp only [Option.some.injEq] at h; subst h
      rename_i hle
      exact ⟨rfl, hle⟩
    · cases h
  · rename_i hne
    have e : cellsV d = [d] := by cases d <;> first | rfl | (exfalso; exact hne _ rfl)
    split at h
    · rename_i x
      simp only [Option.some.injEq] at h; subst h
      rw [e]
      refine ⟨?_, by simp⟩
      simp only [plainCells, Bool.and_true] at hp
      cases x <;> first | rfl | simp [plainCell] at hp
    · cases h

theorem plain_cellsOk : ∀ {xs : List V}, plainCells xs = true → cellsOk xs = true
  | [], _ => rfl
  | x :: xs, h => by
    simp only [plainCells, Bool.and_eq_true] at h
    simp only [cellsOk, Bool.and_eq_true]
    exact ⟨by cases x <;> simp_all [plainCell, cellOk], plain_cellsOk h.2⟩

/-- A row whose cells are written where it lies. -/
theorem write_row (hR : RelH C fid G H w) {l es : Nat} {ds ds' : List V} {h : Home} (hb : G.β l = some h) (hl : H[l]? = some (.row es ds false)) (hn : ds'.length = ds.length)
    (hu' : ∀ d ∈ ds', (cellsV d).length = es) {o : Nat} {ys : List V} {zs : List Value} (hy : VRels fid G w ys zs) (hfit : o + ys.length ≤ ds.length * es)
    (hcells : ∀ vals, VRels fid G w (ds.flatMap cellsV) vals → VRels fid G w (ds'.flatMap cellsV) (vals.take o ++ zs ++ vals.drop (o + zs.length))) {c : Array Value} {e : TypeId} (hc : w.heap[h.b]? = some (.cells c e (0, 0))) :
    ∃ G', RelH C fid G' (H.set l (.row es ds' false)) (w.setRow h.b (c.toList.take o ++ zs ++ c.toList.drop (o + zs.length)).toArray) ∧
      Ext G w G' (w.setRow h.b (c.toList.take o ++ zs ++ c.toList.drop (o + zs.length)).toArray) l H.length := by
  obtain ⟨ob, ho, hr⟩ := hR.obj l h hb
  rw [hl] at ho; cases ho
  obtain ⟨ht, hpos, hf, hes, hu, c', e', vals, rest, hc', hcs, hv, hrel⟩ := hr
  rw [hc] at hc'; cases hc'
  have hx : Ext G w ⟨upd G.β l h, G.I⟩ (w.setRow h.b (c.toList.take o ++ zs ++ c.toList.drop (o + zs.length)).toArray) l H.length :=
    Ext.write hR hb hf rfl (Nat.le_refl _) id rfl (setRow_size _ _) (fun b hne => setRow_other hne _) rfl rfl
  have hfl := flat_length hu
  have hvl := hrel.length
  have hzl := hy.length
  refine ⟨_, ?_, hx⟩
  refine RelH.write hR hb hf rfl hf (Nat.le_refl _) id rfl (setRow_size _ _) (fun b hne => setRow_other hne _) _ ?_
  refine ⟨by rw [ht, hn], by omega, hf, hes, hu', _, e, vals.take o ++ zs ++ vals.drop (o + zs.length), rest, setRow_heap w h.b c _ e _ hc, ?_, ?_, ?_⟩
  · rw [hcs]
    simp only [List.size_toArray, List.length_append, List.length_take, List.length_drop, Array.length_toList]
    have : c.size = vals.length + rest.length := by rw [← Array.length_toList, hv, List.length_append]
    omega
  · rw [List.toList_toArray, hv, List.take_append_of_le_length (by omega), List.drop_append_of_le_length (by omega), List.append_assoc _ _ rest]
  · exact (hcells vals hrel).ext hR hx

theorem storeA_sound (hR : RelH C fid G H w) {t : TypeId} {n : Nat} (hs : C.sizeOf t = some n) {a u : V} {x y : Value} (ha : VRel fid G w a x) (hu : VRel fid G w u y) {l : Nat} (he : storeA H n a u = some (H', l)) :
    ∃ w' G', (Instr.storeAt t x y).run C.P w = .ok () w' ∧ RelH C fid G' H' w' ∧ Ext G w G' w' l H.length ∧ l < H.length ∧ H'.length = H.length := by
  have hsz : ∀ w, (Go.sizeOf t).run C.P w = .ok n w := by
    intro w
    simp only [Ctx.sizeOf, Option.map_eq_some_iff] at hs
    obtain ⟨i, hi, rfl⟩ := hs
    unfold Go.sizeOf
    rw [Sem.run_bind, run_typeInfo (P := C.P) w hi]; rfl
  have hrun : ∀ (b o : Nat) (c : Array Value) (e : TypeId), w.heap[b]? = some (.cells c e (0, 0)) → (cellsV u).length = n → cellsOk (cellsV u) = true → o + n ≤ c.size → x = .pointer (some ⟨b, o, none⟩) →
      (Instr.storeAt t x y).run C.P w = .ok () (w.setRow b (c.toList.take o ++ y.cells.toList ++ c.toList.drop (o + y.cells.toList.length)).toArray) := by
    intro b o c e hc hlen hok hle hx
    obtain ⟨h1, h2⟩ := cells_rel hu hok
    have hl := h1.length
    subst hx
    have hsz' : y.cells.size = n := by rw [← Array.length_toList, hl, hlen]
    simp only [Instr.storeAt, Instr.sureAddr, storeVar, Sem.run_bind, Sem.run_pure, Result.andThen_ok, hsz, hsz', ne_eq, not_true, if_false]
    have := run_storeCells_at C.P b o e y.cells.toList 0 c w hc (by omega) h2
    simpa using this
  unfold storeA at he
  split at he
  · rename_i l' o
    obtain ⟨h0, hb, ht, rfl⟩ := ha.ptrInv
    split at he
    · rename_i vs hl
      split at he
      · rename_i hc
        obtain ⟨hlen, hle, hok⟩ := hc
        simp only [Option.some.injEq, Prod.mk.injEq] at he
        obtain ⟨rfl, rfl⟩ := he
        obtain ⟨ob, ho, hr⟩ := hR.obj l' h0 hb
        rw [hl] at ho; cases ho
        obtain ⟨-, -, c, e, hc, hv⟩ := hr
        have hvl := hv.length
        obtain ⟨h1, h2⟩ := cells_rel hu hok
        obtain ⟨G', r1, r2⟩ := write_cells hR hb hl h1 (by rw [hlen]; exact hle) hc
        exact ⟨_, G', hrun h0.b o c e hc hlen hok (by rw [← Array.length_toList]; omega) rfl, r1, r2, hR.lt hb, by simp⟩
      · cases he
    · cases he
  · rename_i l' es i f tag
    obtain ⟨h0, ad, hb, hle0, had, rfl⟩ := ha.eptrInv
    split at he
    · rename_i es' ds hl
      split at he
      · rename_i hc
        obtain ⟨rfl, htag, hlen, hpl⟩ := hc
        split at he
        · rename_i d hd
          split at he
          · rename_i d' hd'
            simp only [Option.some.injEq, Prod.mk.injEq] at he
            obtain ⟨rfl, rfl⟩ := he
            obtain ⟨ob, ho, hr⟩ := hR.obj l' h0 hb
            rw [hl] at ho; cases ho
            obtain ⟨ht, hpos, hf, hes, huu, c, e, vals, rest, hc, hcs, hv, hrel⟩ := hr
            obtain ⟨p1, p2⟩ := putElem_cells hd' hpl
            have hdl : (cellsV d).length = es' := huu d (List.mem_of_getElem? hd)
            have hok := plain_cellsOk hpl
            obtain ⟨h1, h2⟩ := cells_rel hu hok
            have hi : i < ds.length := by
              obtain ⟨hi, -⟩ := List.getElem?_eq_some_iff.1 hd; exact hi
            have hmul : i * es' + es' ≤ ds.length * es' := by
              have : (i + 1) * es' ≤ ds.length * es' := Nat.mul_le_mul_right _ hi
              rw [Nat.succ_mul] at this; exact this
            have hd'l : (cellsV d').length = es' := by rw [p1, setCells_length, hdl]
            have hfl := flat_length huu
            have hvl := hrel.length
            have hcsz : c.size = vals.length + rest.length := by rw [← Array.length_toList, hv, List.length_append]
            obtain ⟨G', r1, r2⟩ := write_row hR hb hl (ds' := ds.set i d') (by simp)
              (fun a ha => by rcases List.mem_or_eq_of_mem_set ha with q | rfl; exact huu a q; exact hd'l) (o := i * es' + f) h1 (by omega) (fun vals hv => by rw [flat_set huu hd (by omega) p1]; exact setCells_rel _ hv h1 (by omega)) hc
            refine ⟨_, G', hrun h0.b (i * es' + f) c e hc hlen hok (by omega) ?_, r1, r2, hR.lt hb, by simp⟩
            rw [had (ht.trans htag)]
          · cases he
        · cases he
      · cases he
    · cases he
  · cases he

end ops
end Go.Abs
/- The plain operations, one by one. -/
namespace Go.Abs
open Go
variable {C : Ctx} {fid : Nat → Nat} {w w' : World} {G G' : Gh} {H : Heap}
variable {vars : List Nat} {ev : Opd → V} {ρ : Operand → Value} {low low' : Nat} {v : V} {H' : Heap} {pos : String} {aop : AOp} {o : Oper}

theorem s_move (hR : RelH C fid G H w) (hρ : OpdRel C fid vars G w ev ρ) {x : Operand} (ho : o.op = .move x ∨ o.op = .assign x) (hc : C.op0 vars pos o.op = some aop) (he : step ev H low aop = some (v, H', low')) :
    Did C fid G H w low ((execOp ρ o).run C.P w) v H' low' := by
  have hc' : (C.opd vars x).map AOp.mv = some aop := by rcases ho with ho | ho <;> (rw [ho] at hc; exact hc)
  obtain ⟨ax, hx, rfl⟩ := Option.map_eq_some_iff.1 hc'
  simp only [step, Option.some.injEq, Prod.mk.injEq] at he
  obtain ⟨rfl, rfl, rfl⟩ := he
  exact .same hR (x := ρ x) (by unfold execOp; rcases ho with ho | ho <;> rw [ho] <;> rfl) (hρ x ax hx)

theorem s_pick (hR : RelH C fid G H w) (hρ : OpdRel C fid vars G w ev ρ) {c a b : Operand} (ho : o.op = .pick c a b) (hc : C.op0 vars pos o.op = some aop) (he : step ev H low aop = some (v, H', low')) :
    Did C fid G H w low ((execOp ρ o).run C.P w) v H' low' := by
  rw [ho] at hc
  simp only [Ctx.op0] at hc
  split at hc
  · rename_i c' a' b' h1 h2 h3
    simp only [Option.some.injEq] at hc; subst hc
    simp only [step] at he
    obtain ⟨t, ht, he⟩ := Option.map_eq_some_iff.1 he
    simp only [Prod.mk.injEq] at he
    obtain ⟨rfl, rfl, rfl⟩ := he
    have hcv : ev c' = .bool t := by
      unfold boolOf at ht
      split at ht
      · simp only [Option.some.injEq] at ht; subst ht; assumption
      · cases ht
    have := hρ c c' h1
    rw [hcv] at this
    have hb := this.boolInv
    refine .same hR (x := if t then ρ a else ρ b) (by unfold execOp; rw [ho]; simp only [hb, asBool, Sem.run_bind, Sem.run_pure, Result.andThen_ok]) ?_
    cases t
    · exact hρ b b' h3
    · exact hρ a a' h2
  · cases hc

theorem s_nilCheck (hR : RelH C fid G H w) (hρ : OpdRel C fid vars G w ev ρ) {x : Operand} (ho : o.op = .nilCheck x) (hc : C.op0 vars pos o.op = some aop) (he : step ev H low aop = some (v, H', low')) :
    Did C fid G H w low ((execOp ρ o).run C.P w) v H' low' := by
  rw [ho] at hc
  obtain ⟨ax, hx, rfl⟩ := Option.map_eq_some_iff.1 hc
  have hv := hρ x ax hx
  simp only [step] at he
  split at he
  · rename_i l o' e
    simp only [Option.some.injEq, Prod.mk.injEq] at he
    obtain ⟨rfl, rfl, rfl⟩ := he
    rw [e] at hv
    obtain ⟨h0, hb, ht, hx'⟩ := hv.ptrInv
    exact .same hR (x := ρ x) (by unfold execOp; rw [ho]; simp only [hx']; rfl) hv
  · rename_i l es i f tag e
    simp only [Option.some.injEq, Prod.mk.injEq] at he
    obtain ⟨rfl, rfl, rfl⟩ := he
    rw [e] at hv
    obtain ⟨h0, a, hb, hle, ha, hx'⟩ := hv.eptrInv
    exact .same hR (x := ρ x) (by unfold execOp; rw [ho]; simp only [hx']; rfl) hv
  · rename_i vs f e
    simp only [Option.some.injEq, Prod.mk.injEq] at he
    obtain ⟨rfl, rfl, rfl⟩ := he
    rw [e] at hv
    obtain ⟨b, o', vals, hI, hc, hr, hx'⟩ := hv.pinInv
    exact .same hR (x := ρ x) (by unfold execOp; rw [ho]; simp only [hx']; rfl) hv
  · rename_i i a b e
    simp only [Option.some.injEq, Prod.mk.injEq] at he
    obtain ⟨rfl, rfl, rfl⟩ := he
    rw [e] at hv
    obtain ⟨xs, ys, hf, hc, hx'⟩ := hv.fnInv
    exact .same hR (x := ρ x) (by unfold execOp; rw [ho]; simp only [hx']; rfl) hv
  · cases he

theorem s_un (hR : RelH C fid G H w) (hρ : OpdRel C fid vars G w ev ρ) {op : UnOp} {t : TypeId} {x : Operand} (ho : o.op = .unOp op t x) (hc : C.op0 vars pos o.op = some aop) (he : step ev H low aop = some (v, H', low')) :
    Did C fid G H w low ((execOp ρ o).run C.P w) v H' low' := by
  rw [ho] at hc
  obtain ⟨ax, hx, rfl⟩ := Option.map_eq_some_iff.1 hc
  have hv := hρ x ax hx
  simp only [step] at he
  obtain ⟨u, hu, he⟩ := Option.map_eq_some_iff.1 he
  simp only [Prod.mk.injEq] at he
  obtain ⟨rfl, rfl, rfl⟩ := he
  unfold unA at hu
  split at hu
  · rename_i k n e
    simp only [Option.some.injEq] at hu; subst hu
    rw [e] at hv
    exact .same hR (x := .int k (k.wrap (0 - n))) (by unfold execOp; rw [ho]; simp only [hv.intInv, Op.unary, Op.intArith, Sem.run_bind, Sem.run_pure, Result.andThen_ok]) (.p _ _ (.int _ _))
  · rename_i b e
    simp only [Option.some.injEq] at hu; subst hu
    rw [e] at hv
    exact .same hR (x := .bool !b) (by unfold execOp; rw [ho]; simp only [hv.boolInv, Op.unary, Sem.run_bind, Sem.run_pure, Result.andThen_ok]) (.p _ _ (.bool _))
  · cases hu

theorem s_convert (hR : RelH C fid G H w) (hρ : OpdRel C fid vars G w ev ρ) {s d : TypeId} {x : Operand} (ho : o.op = .convert s d x) (hc : C.op0 vars pos o.op = some aop) (he : step ev H low aop = some (v, H', low')) :
    Did C fid G H w low ((execOp ρ o).run C.P w) v H' low' := by
  rw [ho] at hc
  simp only [Ctx.op0] at hc
  split at hc
  · rename_i k0 k ax h1 h2 h3
    simp only [Option.some.injEq] at hc; subst hc
    have hv := hρ x ax h3
    simp only [step] at he
    split at he
    · rename_i k' n e
      simp only [Option.some.injEq, Prod.mk.injEq] at he
      obtain ⟨rfl, rfl, rfl⟩ := he
      rw [e] at hv
      exact .same hR (x := .int k (k.wrap n)) (by unfold execOp; rw [ho]; simp only [hv.intInv, convert, Sem.run_bind, run_underlying h1, run_underlying h2, Result.andThen_ok, Conv.intToInt, Sem.run_pure]) (.p _ _ (.int _ _))
    · cases he
  · cases hc

theorem s_mkIface (hR : RelH C fid G H w) (hρ : OpdRel C fid vars G w ev ρ) {t : TypeId} {x : Operand} (ho : o.op = .makeInterface t x) (hc : C.op0 vars pos o.op = some aop) (he : step ev H low aop = some (v, H', low')) :
    Did C fid G H w low ((execOp ρ o).run C.P w) v H' low' := by
  rw [ho] at hc
  simp only [Ctx.op0] at hc
  split at hc
  · cases hc
  · rename_i d ax hne h1 h2
    simp only [Option.some.injEq] at hc; subst hc
    have hv := hρ x ax h2
    simp only [step] at he
    split at he
    · rename_i v1 H1 low1 hf
      simp only [Option.some.injEq, Prod.mk.injEq] at he
      obtain ⟨rfl, rfl, rfl⟩ := he
      obtain ⟨G1, f1, k1⟩ := freezeV_sound hR hv hf
      refine Did.afterFreeze f1 (Did.same f1.rel (x := .iface t (ρ x)) ?_ (.iface _ _ _ k1))
      unfold execOp; rw [ho]
      simp only [Instr.makeInterface, Sem.run_bind, run_underlying h1, Result.andThen_ok]
      cases d <;> first | rfl | (exfalso; exact hne _ h1)
    · cases he
  · cases hc

theorem mapO_rel (hρ : OpdRel C fid vars G w ev ρ) : ∀ {xs : List Operand} {axs : List Opd}, mapO (C.opd vars) xs = some axs → VRels fid G w (axs.map ev) (xs.map ρ)
  | [], _, h => by simp only [mapO, Option.some.injEq] at h; subst h; exact .nil
  | x :: xs, _, h => by
    simp only [mapO] at h
    split at h
    · rename_i ax hx
      split at h
      · rename_i axs hxs
        simp only [Option.some.injEq] at h; subst h
        exact .cons _ _ _ _ (hρ x ax hx) (mapO_rel hρ hxs)
      · cases h
    · cases h

theorem s_mkFn (hC : CtxOk C fid) (hR : RelH C fid G H w) (hρ : OpdRel C fid vars G w ev ρ) {f : Fn} {a b : Array Operand} (ho : o.op = .makeFunc f a b) (hc : C.op0 vars pos o.op = some aop) (he : step ev H low aop = some (v, H', low')) :
    Did C fid G H w low ((execOp ρ o).run C.P w) v H' low' := by
  rw [ho] at hc
  cases f with
  | func f =>
    simp only [Ctx.op0] at hc
    split at hc
    · rename_i i a' b' h1 h2 h3
      simp only [Option.some.injEq] at hc; subst hc
      simp only [step, Option.some.injEq, Prod.mk.injEq] at he
      obtain ⟨rfl, rfl, rfl⟩ := he
      refine .same hR (x := .func (.func f) (a.map ρ) (b.map ρ)) (by unfold execOp; rw [ho]; rfl) ?_
      have e := hC.f f i h1
      subst e
      have := VRel.fn (fid := fid) i _ _ _ _ (mapO_rel hρ h2) (mapO_rel hρ h3)
      have e1 : a.map ρ = ⟨a.toList.map ρ⟩ := by rw [← Array.toList_map]
      have e2 : b.map ρ = ⟨b.toList.map ρ⟩ := by rw [← Array.toList_map]
      rw [e1, e2]; exact this
    · cases hc
  | _ => simp [Ctx.op0] at hc

theorem s_extract (hR : RelH C fid G H w) (hρ : OpdRel C fid vars G w ev ρ) {x : Operand} {i : Nat} (ho : o.op = .extract x i) (hc : C.op0 vars pos o.op = some aop) (he : step ev H low aop = some (v, H', low')) :
    Did C fid G H w low ((execOp ρ o).run C.P w) v H' low' := by
  rw [ho] at hc
  obtain ⟨ax, hx, rfl⟩ := Option.map_eq_some_iff.1 hc
  have hv := hρ x ax hx
  simp only [step] at he
  split at he
  · rename_i vs e
    obtain ⟨u, hu, he⟩ := Option.map_eq_some_iff.1 he
    simp only [Prod.mk.injEq] at he
    obtain ⟨rfl, rfl, rfl⟩ := he
    rw [e] at hv
    obtain ⟨vals, hx', hr⟩ := hv.tupInv
    obtain ⟨y, hy, hrel⟩ := hr.get hu
    exact .same hR (x := y) (by unfold execOp; rw [ho]; simp only [hx', Instr.extract, List.getElem?_toArray, hy, Sem.run_bind, Sem.run_pure, Result.andThen_ok]) hrel
  · cases he

theorem s_field (hR : RelH C fid G H w) (hρ : OpdRel C fid vars G w ev ρ) {s : TypeId} {x : Operand} {f : Nat} (ho : o.op = .field s x f) (hc : C.op0 vars pos o.op = some aop) (he : step ev H low aop = some (v, H', low')) :
    Did C fid G H w low ((execOp ρ o).run C.P w) v H' low' := by
  rw [ho] at hc
  simp only [Ctx.op0] at hc
  split at hc
  · rename_i fs ax h1 h2
    split at hc
    · rename_i fl h3
      obtain ⟨sh, h4, rfl⟩ := Option.map_eq_some_iff.1 hc
      have hv := hρ x ax h2
      simp only [step] at he
      split at he
      · rename_i vs e
        obtain ⟨u, hu, he⟩ := Option.map_eq_some_iff.1 he
        simp only [Prod.mk.injEq] at he
        obtain ⟨rfl, rfl, rfl⟩ := he
        rw [e] at hv
        obtain ⟨vals, hx', hr⟩ := hv.aggInv
        have hk := hr.readCells hu
        rcases shape_run h4 with ⟨n, rfl, ha, hs⟩ | ⟨rfl, ha⟩
        · refine .same hR (x := .agg ⟨(vals.drop fl.offset).take n⟩) ?_ hk.2
          unfold execOp; rw [ho]
          simp only [hx', Instr.field, Sem.run_bind, run_underlying h1, Result.andThen_ok, h3, asAgg, Sem.run_pure, part, ha, hs, if_true]
          congr 3
          apply Array.ext'
          simp
        · obtain ⟨y, hy, hrel⟩ := hk
          refine .same hR (x := y) ?_ hrel
          unfold execOp; rw [ho]
          simp only [hx', Instr.field, Sem.run_bind, run_underlying h1, Result.andThen_ok, h3, asAgg, Sem.run_pure, part, ha, Bool.false_eq_true, if_false, List.getElem?_toArray, hy]
      · cases he
    · cases hc
  · cases hc

theorem s_fieldAddr (hR : RelH C fid G H w) (hρ : OpdRel C fid vars G w ev ρ) {s : TypeId} {x : Operand} {f : Nat} (ho : o.op = .fieldAddr s x f) (hc : C.op0 vars pos o.op = some aop) (he : step ev H low aop = some (v, H', low')) :
    Did C fid G H w low ((execOp ρ o).run C.P w) v H' low' := by
  rw [ho] at hc
  simp only [Ctx.op0] at hc
  split at hc
  · rename_i fs ax h1 h2
    split at hc
    · rename_i fl h3
      split at hc
      · rename_i n h4
        split at hc
        · cases hc
        · rename_i hn
          simp only [Option.some.injEq] at hc; subst hc
          have hv := hρ x ax h2
          have hrun : ∀ a, ρ x = .pointer (some a) → (execOp ρ o).run C.P w = .ok (.value (.pointer (some (a.add fl.offset)))) w := by
            intro a ha
            simp only [Ctx.sizeOf, Option.map_eq_some_iff] at h4
            obtain ⟨i, hi, rfl⟩ := h4
            unfold execOp; rw [ho]
            simp only [ha, Instr.fieldAt, Sem.run_bind, run_underlying h1, Result.andThen_ok, h3, Instr.sureAddr, Sem.run_pure, fieldPlace, sizeOf, run_typeInfo (P := C.P) w hi, hn, if_false]
          simp only [step] at he
          split at he
          · rename_i l o' e
            simp only [Option.some.injEq, Prod.mk.injEq] at he
            obtain ⟨rfl, rfl, rfl⟩ := he
            rw [e] at hv
            obtain ⟨h0, hb, ht, hx'⟩ := hv.ptrInv
            refine .same hR (hrun _ hx') ?_
            rw [Addr.add_lit]; exact .ptr l _ h0 hb ht
          · rename_i l es i f' tag e
            simp only [Option.some.injEq, Prod.mk.injEq] at he
            obtain ⟨rfl, rfl, rfl⟩ := he
            rw [e] at hv
            obtain ⟨h0, a, hb, hle, ha, hx'⟩ := hv.eptrInv
            refine .same hR (hrun _ hx') (.eptr l es i _ tag h0 _ hb hle (fun ht => ?_))
            rw [ha ht, Addr.add_lit, Nat.add_assoc]
          · rename_i vs f' e
            simp only [Option.some.injEq, Prod.mk.injEq] at he
            obtain ⟨rfl, rfl, rfl⟩ := he
            rw [e] at hv
            obtain ⟨b, o', vals, hI, hc, hr, hx'⟩ := hv.pinInv
            refine .same hR (hrun _ hx') ?_
            rw [Addr.add_lit, Nat.add_assoc]
            exact .pin vs _ b o' vals hI hc hr
          · cases he
      · cases hc
    · cases hc
  · cases hc

theorem s_load (hR : RelH C fid G H w) (hρ : OpdRel C fid vars G w ev ρ) {t : TypeId} {a : Operand} (ho : o.op = .load t a) (hc : C.op0 vars pos o.op = some aop) (he : step ev H low aop = some (v, H', low')) :
    Did C fid G H w low ((execOp ρ o).run C.P w) v H' low' := by
  rw [ho] at hc
  simp only [Ctx.op0] at hc
  split at hc
  · rename_i sh ax h1 h2
    simp only [Option.some.injEq] at hc; subst hc
    simp only [step] at he
    obtain ⟨u, hu, he⟩ := Option.map_eq_some_iff.1 he
    simp only [Prod.mk.injEq] at he
    obtain ⟨rfl, rfl, rfl⟩ := he
    obtain ⟨y, hy, hrel⟩ := loadA_sound hR h1 (hρ a ax h2) hu
    exact .same hR (x := y) (by unfold execOp; rw [ho]; simp only [Sem.run_bind, hy, Result.andThen_ok, Sem.run_pure]) hrel
  · cases hc

theorem s_store (hR : RelH C fid G H w) (hρ : OpdRel C fid vars G w ev ρ) {t : TypeId} {a x : Operand} (ho : o.op = .store t a x) (hc : C.op0 vars pos o.op = some aop) (hlow : low ≤ H.length) (he : step ev H low aop = some (v, H', low')) :
    Did C fid G H w low ((execOp ρ o).run C.P w) v H' low' := by
  rw [ho] at hc
  simp only [Ctx.op0] at hc
  split at hc
  · rename_i n ax bx h1 h2 h3
    simp only [Option.some.injEq] at hc; subst hc
    simp only [step] at he
    obtain ⟨⟨H1, l⟩, hu, he⟩ := Option.map_eq_some_iff.1 he
    simp only [Prod.mk.injEq] at he
    obtain ⟨rfl, rfl, rfl⟩ := he
    obtain ⟨w1, G1, hrun, r1, e1, hl, hlen⟩ := storeA_sound hR h1 (hρ a ax h2) (hρ x bx h3) hu
    exact ⟨undef, w1, G1, .inr ⟨by unfold execOp; rw [ho]; simp only [Sem.run_bind, hrun, Result.andThen_ok, Sem.run_pure], rfl⟩, r1, fun m hm => e1.le (Nat.le_trans hm (Nat.min_le_right _ _)) (Nat.le_refl _), .undef _, Nat.min_le_left _ _, Nat.le_of_eq hlen.symm⟩
  · cases hc

theorem s_alloc (hR : RelH C fid G H w) {t : TypeId} (ho : o.op = .alloc t) (hc : C.op0 vars pos o.op = some aop) (he : step ev H low aop = some (v, H', low')) :
    Did C fid G H w low ((execOp ρ o).run C.P w) v H' low' := by
  rw [ho] at hc
  obtain ⟨z, hz, rfl⟩ := Option.map_eq_some_iff.1 hc
  simp only [step, Option.some.injEq, Prod.mk.injEq] at he
  obtain ⟨rfl, rfl, rfl⟩ := he
  unfold Ctx.zeroCells at hz
  split at hz
  · rename_i i hi
    split at hz
    · rename_i zv hzv
      split at hz
      · rename_i vs hvs
        split at hz
        · simp only [Option.some.injEq] at hz; subst hz
          refine .alloc hR 0 0 (x := .pointer (some ⟨w.heap.size, 0, none⟩)) (ob := .cells zv.cells t) ?_ ⟨rfl, rfl, zv.cells, t, alloc_new _ _, ?_⟩ (.ptr _ _ ⟨w.heap.size, 0, 0, false⟩ (upd_same _ _ _) rfl)
          · unfold execOp; rw [ho]
            simp only [Instr.alloc, zeroValue, Sem.run_bind, run_typeInfo (P := C.P) w hi, Result.andThen_ok, hzv, Sem.run_pure, newVar, newRow, run_newObj, World.alloc_eq]
          · exact PRels.toV (constVs_sound _ hvs)
        · cases hz
      · cases hz
    · cases hz
  · cases hz

theorem s_box (hR : RelH C fid G H w) (hρ : OpdRel C fid vars G w ev ρ) {t : TypeId} {x : Operand} (ho : o.op = .box t x) (hc : C.op0 vars pos o.op = some aop) (he : step ev H low aop = some (v, H', low')) :
    Did C fid G H w low ((execOp ρ o).run C.P w) v H' low' := by
  rw [ho] at hc
  obtain ⟨ax, hx, rfl⟩ := Option.map_eq_some_iff.1 hc
  simp only [step] at he
  split at he
  · rename_i hok
    simp only [Option.some.injEq, Prod.mk.injEq] at he
    obtain ⟨rfl, rfl, rfl⟩ := he
    have hv := hρ x ax hx
    refine .alloc hR 0 0 (x := .pointer (some ⟨w.heap.size, 0, none⟩)) (ob := .cells (ρ x).cells t) ?_ ⟨rfl, rfl, (ρ x).cells, t, alloc_new _ _, ?_⟩ (.ptr _ _ ⟨w.heap.size, 0, 0, false⟩ (upd_same _ _ _) rfl)
    · unfold execOp; rw [ho]
      simp only [Instr.box, Sem.run_bind, Sem.run_pure, Result.andThen_ok, newVar, newRow, run_newObj, World.alloc_eq]
    · exact (cells_rel hv hok).1.ext hR (Ext.push hR _ 0 0 0)
  · cases he

theorem s_mkMap (hR : RelH C fid G H w) {t : TypeId} {r : Option Operand} (ho : o.op = .makeMap t r) (hc : C.op0 vars pos o.op = some aop) (he : step ev H low aop = some (v, H', low')) :
    Did C fid G H w low ((execOp ρ o).run C.P w) v H' low' := by
  rw [ho] at hc
  cases r with
  | some _ => simp [Ctx.op0] at hc
  | none =>
    simp only [Ctx.op0, Option.some.injEq] at hc; subst hc
    simp only [step, Option.some.injEq, Prod.mk.injEq] at he
    obtain ⟨rfl, rfl, rfl⟩ := he
    refine .alloc hR 0 0 (x := .map (some w.heap.size)) (ob := .map #[] 0) ?_ ⟨rfl, rfl, #[], 0, alloc_new _ _, .nil, .nil, ⟨fun x hx => by simp at hx, by simp⟩⟩ (.map _ ⟨w.heap.size, 0, 0, false⟩ (upd_same _ _ _) rfl)
    unfold execOp; rw [ho]
    simp only [Instr.makeMap, Sem.run_bind, Sem.run_pure, Result.andThen_ok, run_newObj, World.alloc_eq, Option.map_none]

theorem natOf_inv {u : V} {n : Nat} (h : natOf u = some n) : ∃ k m, u = .int k m ∧ 0 ≤ m ∧ m.toNat = n := by
  unfold natOf at h
  split at h
  · split at h
    · simp only [Option.some.injEq] at h
      exact ⟨_, _, rfl, by assumption, h⟩
    · cases h
  · cases h

theorem s_indexS (hR : RelH C fid G H w) (hρ : OpdRel C fid vars G w ev ρ) {t : TypeId} {x i : Operand} (ho : o.op = .index t x i) (hc : C.op0 vars pos o.op = some aop) (he : step ev H low aop = some (v, H', low')) :
    Did C fid G H w low ((execOp ρ o).run C.P w) v H' low' := by
  rw [ho] at hc
  simp only [Ctx.op0] at hc
  split at hc
  · rename_i ax bx h1 h2 h3
    simp only [Option.some.injEq] at hc; subst hc
    simp only [step] at he
    split at he
    · rename_i s n e1 e2
      obtain ⟨c, hcc, he⟩ := Option.map_eq_some_iff.1 he
      simp only [Prod.mk.injEq] at he
      obtain ⟨rfl, rfl, rfl⟩ := he
      obtain ⟨k, m, e3, hm, hn⟩ := natOf_inv e2
      have hx := hρ x ax h2
      have hi := hρ i bx h3
      rw [e1] at hx; rw [e3] at hi
      refine .same hR (x := .int .u8 c.toNat) ?_ (.p _ _ (.int _ _))
      unfold execOp; rw [ho]
      have hget : (⟨⟨s⟩⟩ : ByteArray)[m.toNat]? = some c := by
        rw [hn]
        obtain ⟨hlt, hq⟩ := List.getElem?_eq_some_iff.1 hcc
        have : n < (⟨⟨s⟩⟩ : ByteArray).size := hlt
        rw [getElem?_pos (c := (⟨⟨s⟩⟩ : ByteArray)) (i := n) (h := this)]
        congr 1
      simp only [hx.strInv, hi.intInv, Instr.index, asIntOf, Sem.run_bind, Sem.run_pure, Result.andThen_ok, run_underlying h1, hm, if_true, hget]
    · cases he
  · cases hc

end Go.Abs
/- Comparisons, arithmetic, slices of strings and lists, lengths. -/
namespace Go.Abs
open Go
variable {C : Ctx} {fid : Nat → Nat} {w w' : World} {G G' : Gh} {H : Heap}
variable {vars : List Nat} {ev : Opd → V} {ρ : Operand → Value} {low low' : Nat} {v : V} {H' : Heap} {pos : String} {aop : AOp} {o : Oper}

theorem bytes_beq (s t : List UInt8) : ((⟨⟨s⟩⟩ : ByteArray).toList == (⟨⟨t⟩⟩ : ByteArray).toList) = (s == t) := by
  rw [ByteArray.toList_eq, ByteArray.toList_eq]

theorem binOp_run {op : BinOp} {t : TypeId} {a b u : V} {x y : Value} (ha : VRel fid G w a x) (hb : VRel fid G w b y) (hu : binA op a b = some u) :
    ∃ z, (binOp op t x y).run C.P w = .ok z w ∧ VRel fid G w u z ∧ ∀ (px py : Operand), eqGuard op t px py x y = pure () := by
  unfold binA at hu
  split at hu
  · rename_i k a' k' b'
    split at hu
    · rename_i hc
      simp only [Option.some.injEq] at hu; subst hu
      rw [ha.intInv, hb.intInv]
      refine ⟨.int k (k.wrap (a' * 2 ^ b'.toNat)), ?_, .p _ _ (.int _ _), fun _ _ => rfl⟩
      simp only [binOp, Op.shift, Int.not_lt.2 hc.1, if_false, Nat.min_eq_left hc.2, Sem.run_pure]
    · cases hu
  · rename_i k a' k' b'
    split at hu
    · rename_i hc
      simp only [Option.some.injEq] at hu; subst hu
      rw [ha.intInv, hb.intInv]
      refine ⟨.int k (a' / 2 ^ b'.toNat), ?_, .p _ _ (.int _ _), fun _ _ => rfl⟩
      have h2 : (0 : Int) ≤ 2 ^ b'.toNat := Int.pow_nonneg (by decide)
      simp only [binOp, Op.shift, Int.not_lt.2 hc.1, if_false, Nat.min_eq_left hc.2, Sem.run_pure, Int.fdiv_eq_ediv_of_nonneg _ h2]
    · cases hu
  · rename_i k a' k' b' hs1 hs2
    split at hu
    · cases hu
    · rename_i hk
      have hk : k = k' := by simpa using hk
      subst hk
      rw [ha.intInv, hb.intInv]
      have hg : ∀ (px py : Operand), eqGuard op t px py (.int k a') (.int k b') = pure () := fun _ _ => by cases op <;> rfl
      cases op <;> dsimp only at hu <;>
        first
        | (cases hu; done)
        | (simp only [Option.some.injEq] at hu; subst hu
           refine ⟨_, ?_, .p _ _ (.int _ _), hg⟩
           simp only [binOp, ne_eq, not_true, if_false, Op.intArith, Op.intBits, Sem.run_pure]; done)
        | (simp only [Option.some.injEq] at hu; subst hu
           refine ⟨_, ?_, .p _ _ (.bool _), hg⟩
           simp only [binOp, ne_eq, not_true, if_false, Op.intCmp, Sem.run_pure]; done)
        | (split at hu
           · cases hu
           · rename_i hz
             simp only [Option.some.injEq] at hu; subst hu
             refine ⟨_, ?_, .p _ _ (.int _ _), hg⟩
             simp only [binOp, ne_eq, not_true, if_false, Op.intDiv, hz, Sem.run_pure])
  · rename_i a' b'
    split at hu
    · rename_i hc
      simp only [Option.some.injEq] at hu; subst hu
      rw [ha.strInv, hb.strInv]
      refine ⟨.string ⟨⟨a' ++ b'⟩⟩, ?_, .p _ _ (.str _), fun _ _ => rfl⟩
      have hsz : ¬ ((((⟨⟨a'⟩⟩ : ByteArray).size + (⟨⟨b'⟩⟩ : ByteArray).size : Nat) : Int) > IntKind.i64.max) := by
        rw [IntKind.max_i64]
        have e1 : (⟨⟨a'⟩⟩ : ByteArray).size = a'.length := rfl
        have e2 : (⟨⟨b'⟩⟩ : ByteArray).size = b'.length := rfl
        rw [e1, e2]; omega
      have hcat : (⟨⟨a'⟩⟩ : ByteArray) ++ (⟨⟨b'⟩⟩ : ByteArray) = ⟨⟨a' ++ b'⟩⟩ := by
        apply ByteArray.ext
        rw [ByteArray.data_append]
        simp
      simp only [binOp, Op.stringOp, hsz, if_false, hcat, Sem.run_pure]
    · cases hu
  · rename_i a' b'
    simp only [Option.some.injEq] at hu; subst hu
    rw [ha.strInv, hb.strInv]
    refine ⟨.bool (a' == b'), ?_, .p _ _ (.bool _), fun _ _ => rfl⟩
    simp only [binOp, Op.stringOp, bytes_beq, Sem.run_pure]
  · rename_i a' b'
    simp only [Option.some.injEq] at hu; subst hu
    rw [ha.strInv, hb.strInv]
    refine ⟨.bool (a' != b'), ?_, .p _ _ (.bool _), fun _ _ => rfl⟩
    simp only [binOp, Op.stringOp, bytes_beq, Sem.run_pure, bne]
  · cases hu

theorem VRel.nilpInv {x : Value} (h : VRel fid G w .nilp x) : x = .pointer none := by cases h with | p _ _ h => cases h; rfl
theorem VRel.nil0Inv {x : Value} (h : VRel fid G w .nil0 x) : x = .slice none 0 0 := by cases h with | p _ _ h => cases h; rfl
theorem VRel.empInv {x : Value} (h : VRel fid G w .emp x) : ∃ a, x = .slice (some a) 0 0 := by cases h with | p _ _ h => cases h; exact ⟨_, rfl⟩
theorem VRel.nilfInv {x : Value} (h : VRel fid G w .nilf x) : x = .nilFunc := by cases h with | p _ _ h => cases h; rfl
theorem VRel.niliInv {x : Value} (h : VRel fid G w .nili x) : x = .nilIface := by cases h with | p _ _ h => cases h; rfl
theorem VRel.nilmInv {x : Value} (h : VRel fid G w .nilm x) : x = .map none := by cases h with | p _ _ h => cases h; rfl
theorem VRel.ifaceInv {x : Value} {t : Nat} {v : V} (h : VRel fid G w (.iface t v) x) : ∃ y, x = .iface t y ∧ VRel fid G w v y := by
  cases h with
  | p _ _ h => cases h with | iface _ _ y h => exact ⟨y, rfl, .p _ _ h⟩
  | iface _ _ y h => exact ⟨y, rfl, h⟩
theorem VRel.listInv {x : Value} {es : Nat} {ds : List V} (h : VRel fid G w (.list es ds) x) :
    ∃ a cap, x = .slice (some a) ds.length cap ∧ ds.length ≤ cap ∧ (ds = [] ∨ ∃ b o vals, a = ⟨b, o, none⟩ ∧ G.I b ∧ CellsAt w b o vals ∧ (∀ d ∈ ds, (cellsV d).length = es) ∧ PRels w G.I (ds.flatMap cellsV) vals) := by
  cases h with
  | p _ _ h => cases h with
    | list0 _ a cap => exact ⟨a, cap, rfl, Nat.zero_le _, .inl rfl⟩
    | list _ _ b o cap vals hI hc hu hr hl => exact ⟨_, cap, rfl, hl, .inr ⟨b, o, vals, rfl, hI, hc, hu, hr⟩⟩

def kindOk : Nat → TypeDesc → Prop
  | 0, d => ∃ t', d = .pointer t'
  | 1, d => ∃ t', d = .slice t'
  | 2, d => ∃ p r b, d = .func p r b
  | 3, d => ∃ m, d = .interface m
  | 4, d => d = .bool
  | _, _ => False

theorem equal_run {t : TypeId} {d : TypeDesc} (hd : C.P.underlying t = some d) {kind : Nat} {a b : V} {e : Bool} {x y : Value} (ha : VRel fid G w a x) (hb : VRel fid G w b y) (hu : nilEqA kind a b = some e)
    (hk : kindOk kind d) :
    (Op.equal t x y).run C.P w = .ok e w := by
  show (Op.equalIn (9999 + 1) t x y).run C.P w = .ok e w
  generalize 9999 = depth
  unfold nilEqA at hu
  split at hu
  · simp only [Option.some.injEq] at hu; subst hu
    obtain ⟨t', rfl⟩ := hk
    rw [ha.nilpInv, hb.nilpInv]
    simp [Op.equalIn, run_underlying hd]
  · simp only [Option.some.injEq] at hu; subst hu
    obtain ⟨t', rfl⟩ := hk
    obtain ⟨h0, -, -, rfl⟩ := ha.ptrInv
    rw [hb.nilpInv]
    simp [Op.equalIn, run_underlying hd]
  · simp only [Option.some.injEq] at hu; subst hu
    obtain ⟨t', rfl⟩ := hk
    obtain ⟨h0, -, -, rfl⟩ := hb.ptrInv
    rw [ha.nilpInv]
    simp [Op.equalIn, run_underlying hd]
  · simp only [Option.some.injEq] at hu; subst hu
    obtain ⟨t', rfl⟩ := hk
    rw [ha.nil0Inv, hb.nil0Inv]
    simp [Op.equalIn, run_underlying hd]
  · simp only [Option.some.injEq] at hu; subst hu
    obtain ⟨t', rfl⟩ := hk
    obtain ⟨_, rfl⟩ := ha.empInv
    rw [hb.nil0Inv]
    simp [Op.equalIn, run_underlying hd]
  · simp only [Option.some.injEq] at hu; subst hu
    obtain ⟨t', rfl⟩ := hk
    obtain ⟨_, _, rfl, -⟩ := ha.listInv
    rw [hb.nil0Inv]
    simp [Op.equalIn, run_underlying hd]
  · simp only [Option.some.injEq] at hu; subst hu
    obtain ⟨t', rfl⟩ := hk
    obtain ⟨_, _, _, _, -, -, -, rfl⟩ := ha.srefInv
    rw [hb.nil0Inv]
    simp [Op.equalIn, run_underlying hd]
  · simp only [Option.some.injEq] at hu; subst hu
    obtain ⟨p, r, b', rfl⟩ := hk
    rw [ha.nilfInv, hb.nilfInv]
    simp [Op.equalIn, run_underlying hd]
  · simp only [Option.some.injEq] at hu; subst hu
    obtain ⟨p, r, b', rfl⟩ := hk
    obtain ⟨_, _, -, -, rfl⟩ := ha.fnInv
    rw [hb.nilfInv]
    simp [Op.equalIn, run_underlying hd]
  · simp only [Option.some.injEq] at hu; subst hu
    obtain ⟨m, rfl⟩ := hk
    rw [ha.niliInv, hb.niliInv]
    simp [Op.equalIn, run_underlying hd]
  · simp only [Option.some.injEq] at hu; subst hu
    obtain ⟨m, rfl⟩ := hk
    obtain ⟨_, rfl, -⟩ := ha.ifaceInv
    rw [hb.niliInv]
    simp [Op.equalIn, run_underlying hd]
  · simp only [Option.some.injEq] at hu; subst hu
    subst hk
    rw [ha.boolInv, hb.boolInv]
    simp [Op.equalIn, run_underlying hd]
  · cases hu

theorem binOp_eql_run {t : TypeId} {kind : Nat} {a b : V} {e : Bool} {x y : Value} (ha : VRel fid G w a x) (hb : VRel fid G w b y) (hu : nilEqA kind a b = some e) (neg : Bool)
    (hq : (Op.equal t x y).run C.P w = .ok e w) :
    (binOp (if neg then .neq else .eql) t x y).run C.P w = .ok (.bool (if neg then !e else e)) w := by
  have key : binOp (if neg then .neq else .eql) t x y = (do let q ← Op.equal t x y; pure (.bool (if neg then !q else q))) := by
    unfold nilEqA at hu
    split at hu
    · rw [ha.nilpInv, hb.nilpInv]; cases neg <;> rfl
    · obtain ⟨h0, -, -, rfl⟩ := ha.ptrInv; rw [hb.nilpInv]; cases neg <;> rfl
    · obtain ⟨h0, -, -, rfl⟩ := hb.ptrInv; rw [ha.nilpInv]; cases neg <;> rfl
    · rw [ha.nil0Inv, hb.nil0Inv]; cases neg <;> rfl
    · obtain ⟨_, rfl⟩ := ha.empInv; rw [hb.nil0Inv]; cases neg <;> rfl
    · obtain ⟨_, _, rfl, -⟩ := ha.listInv; rw [hb.nil0Inv]; cases neg <;> rfl
    · obtain ⟨_, _, _, _, -, -, -, rfl⟩ := ha.srefInv; rw [hb.nil0Inv]; cases neg <;> rfl
    · rw [ha.nilfInv, hb.nilfInv]; cases neg <;> rfl
    · obtain ⟨_, _, -, -, rfl⟩ := ha.fnInv; rw [hb.nilfInv]; cases neg <;> rfl
    · rw [ha.niliInv, hb.niliInv]; cases neg <;> rfl
    · obtain ⟨_, rfl, -⟩ := ha.ifaceInv; rw [hb.niliInv]; cases neg <;> rfl
    · rw [ha.boolInv, hb.boolInv]; cases neg <;> rfl
    · cases hu
  rw [key, Sem.run_bind, hq]
  cases neg <;> rfl

theorem eqGuard_nilEq {op : BinOp} {t : TypeId} {kind : Nat} {a b : V} {e : Bool} {x y : Value} {px py : Operand} (ha : VRel fid G w a x) (hb : VRel fid G w b y) (hu : nilEqA kind a b = some e)
    (hc : kind = 3 → ∃ c, py = .const c) : eqGuard op t px py x y = pure () := by
  unfold nilEqA at hu
  split at hu
  · rw [ha.nilpInv, hb.nilpInv]; cases op <;> rfl
  · obtain ⟨h0, -, -, rfl⟩ := ha.ptrInv; rw [hb.nilpInv]; cases op <;> rfl
  · obtain ⟨h0, -, -, rfl⟩ := hb.ptrInv; rw [ha.nilpInv]; cases op <;> rfl
  · rw [ha.nil0Inv, hb.nil0Inv]; cases op <;> rfl
  · obtain ⟨_, rfl⟩ := ha.empInv; rw [hb.nil0Inv]; cases op <;> rfl
  · obtain ⟨_, _, rfl, -⟩ := ha.listInv; rw [hb.nil0Inv]; cases op <;> rfl
  · obtain ⟨_, _, _, _, -, -, -, rfl⟩ := ha.srefInv; rw [hb.nil0Inv]; cases op <;> rfl
  · rw [ha.nilfInv, hb.nilfInv]; cases op <;> rfl
  · obtain ⟨_, _, -, -, rfl⟩ := ha.fnInv; rw [hb.nilfInv]; cases op <;> rfl
  · rw [ha.niliInv, hb.niliInv]
    obtain ⟨c, rfl⟩ := hc rfl
    unfold eqGuard
    cases op <;> simp
  · obtain ⟨_, rfl, -⟩ := ha.ifaceInv; rw [hb.niliInv]; cases op <;> rfl
  · rw [ha.boolInv, hb.boolInv]; cases op <;> rfl
  · cases hu

theorem opd_nilConst {y : Operand} {ay : Opd} (h : C.opd vars y = some ay) (hn : Ctx.isNilConst ay = true) : ∃ c, y = .const c := by
  cases y with
  | const c => exact ⟨c, rfl⟩
  | tmp t =>
    simp only [Ctx.opd, Option.some.injEq] at h; subst h
    split at hn <;> simp [Ctx.isNilConst] at hn
  | func f =>
    simp only [Ctx.opd, Option.map_eq_some_iff] at h
    obtain ⟨_, -, rfl⟩ := h
    simp [Ctx.isNilConst] at hn
  | global g => simp [Ctx.opd] at h

theorem eqK_run {t : TypeId} {k : Nat} (hk : C.kindT t = some k) {a b : V} {x y : Value} {e : Bool} (ha : VRel fid G w a x) (hb : VRel fid G w b y) (he : eqK k a b = some e) (d : Nat) :
    (Op.equalIn (d + 1) t x y).run C.P w = .ok e w := by
  unfold Ctx.kindT at hk
  unfold eqK at he
  split at he
  · split at he
    · rename_i hkk
      simp only [Option.some.injEq] at he; subst he; subst hkk
      rw [ha.intInv, hb.intInv]
      split at hk <;> rename_i hd <;> simp at hk
      exact run_equalIn_int w d t _ _ _ _ hd
    · cases he
  · simp only [Option.some.injEq] at he; subst he
    rw [ha.strInv, hb.strInv]
    split at hk <;> rename_i hd <;> simp at hk
    rw [run_equalIn_string w d t _ _ hd, bytes_beq]
  · simp only [Option.some.injEq] at he; subst he
    rw [ha.boolInv, hb.boolInv]
    split at hk <;> rename_i hd <;> simp at hk
    exact run_equalIn_bool' w d t _ _ hd
  · cases he

theorem kindT_plain {t : TypeId} {k : Nat} (hk : C.kindT t = some k) (w : World) : (isAgg t).run C.P w = .ok false w := by
  unfold Ctx.kindT at hk
  unfold isAgg
  split at hk <;> rename_i hd <;> first | (cases hk; done) | (rw [Sem.run_bind, run_underlying hd]; rfl)

theorem eqFields_run {xs ys : List V} {vx vy : List Value} (hx : VRels fid G w xs vx) (hy : VRels fid G w ys vy) (d : Nat) : ∀ (fs : List Field) (i : Nat) (ks : List Nat) (e : Bool), C.eqKinds i fs = some ks →
    eqCells ks (xs.drop i) (ys.drop i) = some e → (Op.eqFields (d + 1) ⟨vx⟩ ⟨vy⟩ fs).run C.P w = .ok e w
  | [], i, ks, e, hk, he => by
    simp only [Ctx.eqKinds, Option.some.injEq] at hk; subst hk
    unfold eqCells at he
    split at he
    · simp only [Option.some.injEq] at he; subst he; rfl
    · simp_all
    · cases he
  | f :: fs, i, ks, e, hk, he => by
    simp only [Ctx.eqKinds] at hk
    split at hk
    · rename_i k hkf
      split at hk
      · rename_i hc
        simp only [Bool.and_eq_true, bne_iff_ne, ne_eq, beq_iff_eq] at hc
        obtain ⟨ks', hks, rfl⟩ := Option.map_eq_some_iff.1 hk
        cases hxd : xs.drop i with
        | nil => rw [hxd] at he; simp [eqCells] at he
        | cons a xr =>
          cases hyd : ys.drop i with
          | nil => rw [hxd, hyd] at he; simp [eqCells] at he
          | cons b yr =>
            rw [hxd, hyd] at he
            simp only [eqCells] at he
            have ax : xs[i]? = some a := by have := congrArg (·[0]?) hxd; simpa using this
            have ay : ys[i]? = some b := by have := congrArg (·[0]?) hyd; simpa using this
            have xr' : xs.drop (i + 1) = xr := by have := congrArg (List.drop 1) hxd; simpa [List.drop_drop] using this
            have yr' : ys.drop (i + 1) = yr := by have := congrArg (List.drop 1) hyd; simpa [List.drop_drop] using this
            obtain ⟨va, hva, ra⟩ := hx.get ax
            obtain ⟨vb, hvb, rb⟩ := hy.get ay
            split at he
            · rename_i e1 he1
              split at he
              · rename_i e2 he2
                simp only [Option.some.injEq] at he; subst he
                rw [← xr', ← yr'] at he2
                have ih := eqFields_run hx hy d fs (i + 1) ks' e2 hks he2
                have hp : ∀ (l : List Value) (z : Value), l[i]? = some z → (part f.type ⟨l⟩ f.offset).run C.P w = .ok z w := by
                  intro l z hz
                  unfold part
                  simp only [Sem.run_bind, kindT_plain hkf, Result.andThen_ok, Bool.false_eq_true, if_false, hc.2, List.getElem?_toArray, hz, Sem.run_pure]
                simp only [Op.eqFields, hc.1, ne_eq, not_false_eq_true, if_true, Sem.run_bind, hp vx va hva, hp vy vb hvb, Result.andThen_ok, eqK_run hkf ra rb he1 d, Sem.run_ite, Sem.run_pure, ih]
                cases e1 <;> simp
              · cases he
            · cases he
      · cases hk
    · cases hk

theorem eqCells_run {t : TypeId} {fs : Array Field} {ks : List Nat} (hd : C.P.underlying t = some (.struct fs)) (hs : C.structEq t = some ks) {xs ys : List V} {vx vy : List Value} (hx : VRels fid G w xs vx) (hy : VRels fid G w ys vy)
    {e : Bool} (he : eqCells ks xs ys = some e) (neg : Bool) (px py : Operand) :
    (do eqGuard (if neg then .neq else .eql) t px py (.agg ⟨vx⟩) (.agg ⟨vy⟩); binOp (if neg then .neq else .eql) t (.agg ⟨vx⟩) (.agg ⟨vy⟩)).run C.P w = .ok (.bool (if neg then !e else e)) w := by
  unfold Ctx.structEq at hs
  rw [hd] at hs
  simp only at hs
  split at hs
  · rename_i hc
    simp only [Bool.and_eq_true, Bool.not_eq_true'] at hc
    have hf : C.P.fieldsOf t = fs := by unfold Program.fieldsOf; rw [hd]
    have key : (Op.equalIn 10000 t (.agg ⟨vx⟩) (.agg ⟨vy⟩)).run C.P w = .ok e w := by
      rw [run_equalIn_struct (P := C.P) w 9999 t _ _ (by rw [hf]; exact hd) hc.1, hf]
      exact eqFields_run hx hy 9998 fs.toList 0 ks e hs (by simpa using he)
    rw [Sem.run_bind, run_eqGuard_agg w _ t px py _ _ hc.2]
    cases neg
    · simp only [Bool.false_eq_true, if_false, Result.andThen_ok, run_eql_struct, key]
    · simp only [if_true, Result.andThen_ok, run_neq_struct, key]
  · cases hs

theorem s_bin (hR : RelH C fid G H w) (hρ : OpdRel C fid vars G w ev ρ) {bop : BinOp} {t t' : TypeId} {x y : Operand} (ho : o.op = .binOp bop t x y t') (hc : C.op0 vars pos o.op = some aop) (he : step ev H low aop = some (v, H', low')) :
    Did C fid G H w low ((execOp ρ o).run C.P w) v H' low' := by
  rw [ho] at hc
  simp only [Ctx.op0] at hc
  split at hc
  · rename_i ax ay h1 h2
    have hx := hρ x ax h1
    have hy := hρ y ay h2
    have plain : ∀ {a b : BinOp}, step ev H low (.bin bop ax ay) = some (v, H', low') → a = b → Did C fid G H w low ((execOp ρ o).run C.P w) v H' low' := by
      intro _ _ he _
      simp only [step] at he
      obtain ⟨u, hu, he⟩ := Option.map_eq_some_iff.1 he
      simp only [Prod.mk.injEq] at he
      obtain ⟨rfl, rfl, rfl⟩ := he
      obtain ⟨z, hz, hrel, hg⟩ := binOp_run (C := C) (t := t) hx hy hu
      refine .same hR (x := z) ?_ hrel
      unfold execOp; rw [ho]
      simp only [hg, Sem.run_bind, Sem.run_pure, Result.andThen_ok, hz]
    have agg : ∀ (neg : Bool) {fs : Array Field}, bop = (if neg then .neq else .eql) → C.P.underlying t = some (.struct fs) → (C.structEq t).map (fun n => AOp.eqAgg neg n ax ay) = some aop → Did C fid G H w low ((execOp ρ o).run C.P w) v H' low' := by
      intro neg fs hop hd hm
      obtain ⟨n, hn, rfl⟩ := Option.map_eq_some_iff.1 hm
      simp only [step] at he
      split at he
      · rename_i xs ys e1 e2
        obtain ⟨e, hee, he⟩ := Option.map_eq_some_iff.1 he
        simp only [Prod.mk.injEq] at he
        obtain ⟨rfl, rfl, rfl⟩ := he
        rw [e1] at hx; rw [e2] at hy
        obtain ⟨vx, hx', hrx⟩ := hx.aggInv
        obtain ⟨vy, hy', hry⟩ := hy.aggInv
        have key := eqCells_run hd hn hrx hry hee neg x y
        rw [← hop] at key
        refine .same hR (x := .bool (if neg then !e else e)) ?_ (.p _ _ (.bool _))
        unfold execOp; rw [ho]
        simp only [hx', hy']
        rw [Sem.run_bind, key]; rfl
      · cases he
    have kinds : ∀ (neg : Bool) {d : TypeDesc}, bop = (if neg then .neq else .eql) → C.P.underlying t = some d → Ctx.nilKind d ax ay (.bin bop ax ay) neg = some aop → Did C fid G H w low ((execOp ρ o).run C.P w) v H' low' := by
      intro neg d hop hd hk
      have go : ∀ kind, aop = .nilEq kind neg ax ay → kindOk kind d →
          (kind = 3 → ∃ c, y = .const c) → Did C fid G H w low ((execOp ρ o).run C.P w) v H' low' := by
        intro kind ha hkk hcc
        subst ha
        simp only [step] at he
        obtain ⟨e, hee, he⟩ := Option.map_eq_some_iff.1 he
        simp only [Prod.mk.injEq] at he
        obtain ⟨rfl, rfl, rfl⟩ := he
        have hq := equal_run (t := t) hd hx hy hee hkk
        have hb := binOp_eql_run hx hy hee neg hq
        rw [← hop] at hb
        refine .same hR (x := .bool (if neg then !e else e)) ?_ (.p _ _ (.bool _))
        unfold execOp; rw [ho]
        simp only [eqGuard_nilEq hx hy hee hcc, Sem.run_bind, Sem.run_pure, Result.andThen_ok, hb]
      unfold Ctx.nilKind at hk
      split at hk
      · simp only [Option.some.injEq] at hk; subst hk; exact plain (a := .add) (b := .add) he rfl
      · simp only [Option.some.injEq] at hk; subst hk; exact plain (a := .add) (b := .add) he rfl
      · simp only [Option.some.injEq] at hk; exact go 0 hk.symm ⟨_, rfl⟩ (fun h => by cases h)
      · simp only [Option.some.injEq] at hk; exact go 1 hk.symm ⟨_, rfl⟩ (fun h => by cases h)
      · simp only [Option.some.injEq] at hk; exact go 2 hk.symm ⟨_, _, _, rfl⟩ (fun h => by cases h)
      · split at hk
        · rename_i hcst
          simp only [Option.some.injEq] at hk; exact go 3 hk.symm ⟨_, rfl⟩ (fun _ => opd_nilConst h2 hcst)
        · cases hk
      · simp only [Option.some.injEq] at hk; exact go 4 hk.symm rfl (fun h => by cases h)
      · cases hk
    split at hc
    · rename_i hd; exact agg false rfl hd hc
    · rename_i hd; exact agg true rfl hd hc
    · rename_i hd; exact kinds false rfl hd hc
    · rename_i hd; exact kinds true rfl hd hc
    · cases hc
    · cases hc
    · simp only [Option.some.injEq] at hc; subst hc; exact plain (a := .add) (b := .add) he rfl
  · cases hc

end Go.Abs
/- Slicing, indexing, lengths, min and max. -/
namespace Go.Abs
open Go
variable {C : Ctx} {fid : Nat → Nat} {w w' : World} {G G' : Gh} {H : Heap}
variable {vars : List Nat} {ev : Opd → V} {ρ : Operand → Value} {low low' : Nat} {v : V} {H' : Heap} {pos : String} {aop : AOp} {o : Oper}

theorem sliceBound_run {x : Value} {k : IntKind} {m : Int} {n y : Nat} {code : BoundsCode} (hx : x = .int k m) (h0 : 0 ≤ m) (hn : m.toNat = n) (hy : n ≤ y) :
    (Instr.sliceBound x y code).run C.P w = .ok n w := by
  subst hx
  have : 0 ≤ m ∧ m ≤ (y : Int) := by omega
  simp only [Instr.sliceBound, asIntOf, Sem.run_bind, Sem.run_pure, Result.andThen_ok, this, and_self, if_true, hn]

/-- A bound that stands, or that is not written. -/
theorem bnd_inv (hρ : OpdRel C fid vars G w ev ρ) {x : Option Operand} {ax : Option Opd} (hx : C.opdO vars x = some ax) {d n : Nat} (h : bnd ev d ax = some n) :
    (x = none ∧ ax = none ∧ n = d) ∨ ∃ y k m, x = some y ∧ ρ y = .int k m ∧ 0 ≤ m ∧ m.toNat = n := by
  cases x with
  | none =>
    simp only [Ctx.opdO, Option.some.injEq] at hx; subst hx
    simp only [bnd, Option.some.injEq] at h
    exact .inl ⟨rfl, rfl, h.symm⟩
  | some y =>
    simp only [Ctx.opdO, Option.map_eq_some_iff] at hx
    obtain ⟨ay, hy, rfl⟩ := hx
    simp only [bnd] at h
    obtain ⟨k, m, e, hm, hn⟩ := natOf_inv h
    have := hρ y ay hy
    rw [e] at this
    exact .inr ⟨y, k, m, rfl, this.intInv, hm, hn⟩

/-- The bounds of a slice without a third index. -/
theorem sliceBounds_run (hρ : OpdRel C fid vars G w ev ρ) {lo hi : Option Operand} {alo ahi : Option Opd} (hlo : C.opdO vars lo = some alo) (hhi : C.opdO vars hi = some ahi) {isS : Bool} {len cap a b : Nat}
    (ha : bnd ev 0 alo = some a) (hb : bnd ev len ahi = some b) (h1 : a ≤ b) (h2 : b ≤ len) (h3 : len ≤ cap) :
    (Instr.sliceBounds isS len cap (lo.map ρ) (hi.map ρ) none).run C.P w = .ok (a, b, cap) w := by
  unfold Instr.sliceBounds
  have hB : ∀ (z : Nat × Nat × Nat), True := fun _ => trivial
  rcases bnd_inv hρ hhi hb with ⟨rfl, -, rfl⟩ | ⟨y, k, m, rfl, ey, hm, hn⟩
  · rcases bnd_inv hρ hlo ha with ⟨rfl, -, rfl⟩ | ⟨y', k', m', rfl, ey', hm', hn'⟩
    · simp only [Option.map_none, Sem.run_bind, Sem.run_pure, Result.andThen_ok]
    · simp only [Option.map_none, Option.map_some, Sem.run_bind, Sem.run_pure, Result.andThen_ok, sliceBound_run (C := C) ey' hm' hn' h1]
  · rcases bnd_inv hρ hlo ha with ⟨rfl, -, rfl⟩ | ⟨y', k', m', rfl, ey', hm', hn'⟩
    · simp only [Option.map_none, Option.map_some, Sem.run_bind, Sem.run_pure, Result.andThen_ok, sliceBound_run (C := C) ey hm hn (Nat.le_trans h2 h3)]
    · simp only [Option.map_some, Sem.run_bind, Sem.run_pure, Result.andThen_ok, sliceBound_run (C := C) ey hm hn (Nat.le_trans h2 h3), sliceBound_run (C := C) ey' hm' hn' h1]

/-- 's[lo:0:0]'. -/
theorem sliceBounds0_run (hρ : OpdRel C fid vars G w ev ρ) {lo hi mx : Option Operand} {alo ahi : Option Opd} {m : Opd} (hlo : C.opdO vars lo = some alo) (hhi : C.opdO vars hi = some ahi) (hmx : C.opdO vars mx = some (some m))
    {len cap a d : Nat} (ha : bnd ev 0 alo = some a) (hb : bnd ev d ahi = some 0) (hi0 : ahi ≠ none) (h1 : a ≤ 0) (hm : natOf (ev m) = some 0) :
    (Instr.sliceBounds true len cap (lo.map ρ) (hi.map ρ) (mx.map ρ)).run C.P w = .ok (0, 0, 0) w := by
  unfold Instr.sliceBounds
  obtain rfl : a = 0 := by omega
  rcases bnd_inv hρ hmx (d := 0) (show bnd ev 0 (some m) = some 0 from hm) with ⟨-, q, -⟩ | ⟨z, kz, mz, rfl, ez, hmz, hnz⟩
  · cases q
  · rcases bnd_inv hρ hhi hb with ⟨-, q, -⟩ | ⟨y, k, m', rfl, ey, hm', hn'⟩
    · exact absurd q hi0
    · rcases bnd_inv hρ hlo ha with ⟨rfl, -, -⟩ | ⟨y', k', m'', rfl, ey', hm'', hn''⟩
      · simp only [Option.map_none, Option.map_some, Sem.run_bind, Sem.run_pure, Result.andThen_ok, sliceBound_run (C := C) ez hmz hnz (Nat.zero_le _), sliceBound_run (C := C) ey hm' hn' (Nat.zero_le _)]
      · simp only [Option.map_some, Sem.run_bind, Sem.run_pure, Result.andThen_ok, sliceBound_run (C := C) ez hmz hnz (Nat.zero_le _), sliceBound_run (C := C) ey hm' hn' (Nat.zero_le _), sliceBound_run (C := C) ey' hm'' hn'' (Nat.zero_le _)]

theorem sliceAt_slice {t e : TypeId} (hd : C.P.underlying t = some (.slice e)) (x : Value) (lo hi mx : Option Value) : (Instr.sliceAt t x lo hi mx).run C.P w = (Instr.slice t x lo hi mx).run C.P w := by
  unfold Instr.sliceAt
  rw [Sem.run_bind, run_underlying hd]; rfl
theorem sliceAt_string {t : TypeId} (hd : C.P.underlying t = some .string) (x : Value) (lo hi mx : Option Value) : (Instr.sliceAt t x lo hi mx).run C.P w = (Instr.slice t x lo hi mx).run C.P w := by
  unfold Instr.sliceAt
  rw [Sem.run_bind, run_underlying hd]; rfl

theorem sizeOf_run {t n : Nat} (hs : C.sizeOf t = some n) (w : World) : (Go.sizeOf t).run C.P w = .ok n w := by
  simp only [Ctx.sizeOf, Option.map_eq_some_iff] at hs
  obtain ⟨i, hi, rfl⟩ := hs
  unfold Go.sizeOf
  rw [Sem.run_bind, run_typeInfo (P := C.P) w hi]; rfl

theorem extract_bytes (s : List UInt8) (a b : Nat) : (⟨⟨s⟩⟩ : ByteArray).extract a b = ⟨⟨(s.take b).drop a⟩⟩ := by
  apply ByteArray.ext
  rw [ByteArray.data_extract]
  apply Array.ext'
  simp [List.drop_take]

theorem list_shift {es : Nat} {ds : List V} {x : Value} (h : VRel fid G w (.list es ds) x) {a b : Nat} (hab : a ≤ b) (hb : b ≤ ds.length) :
    ∃ ad cap, x = .slice (some ad) ds.length cap ∧ ds.length ≤ cap ∧ VRel fid G w (.list es ((ds.take b).drop a)) (.slice (if cap = a then some ad else some (ad.add (a * es))) (b - a) (cap - a)) := by
  obtain ⟨ad, cap, rfl, hcap, hq⟩ := h.listInv
  refine ⟨ad, cap, rfl, hcap, ?_⟩
  have hlen : ((ds.take b).drop a).length = b - a := by simp; omega
  by_cases hn : (ds.take b).drop a = []
  · have hba : b - a = 0 := by rw [← hlen, hn]; rfl
    rw [hn, hba]
    split
    · exact .p _ _ (.list0 _ _ _)
    · exact .p _ _ (.list0 _ _ _)
  · have hlt : a < b := by
      rcases Nat.lt_or_ge a b with q | q
      · exact q
      · exact absurd (List.length_eq_zero_iff.1 (by omega)) hn
    rcases hq with rfl | ⟨bb, o', vals, rfl, hI, hc, hu, hr⟩
    · simp at hn
    · rw [if_neg (by omega), Addr.add_lit]
      have hu1 : ∀ d ∈ ds.take b, (cellsV d).length = es := fun d hd => hu d (List.mem_of_mem_take hd)
      have key := PRel.list (w := w) (I := G.I) es ((ds.take b).drop a) bb (o' + a * es) (cap - a) ((vals.take (b * es)).drop (a * es)) hI ((hc.take _).drop _)
        (fun d hd => hu1 d (List.mem_of_mem_drop hd)) (by
          rw [flat_drop hu1, flat_take hu]
          exact (hr.take _).drop _) (by rw [hlen]; omega)
      rw [hlen] at key
      exact .p _ _ key

theorem s_slice (hR : RelH C fid G H w) (hρ : OpdRel C fid vars G w ev ρ) {t : TypeId} {x : Operand} {lo hi mx : Option Operand} (ho : o.op = .slice t x lo hi mx) (hc : C.op0 vars pos o.op = some aop) (he : step ev H low aop = some (v, H', low')) :
    Did C fid G H w low ((execOp ρ o).run C.P w) v H' low' := by
  rw [ho] at hc
  have hrun : (execOp ρ o).run C.P w = ((Instr.sliceAt t (ρ x) (lo.map ρ) (hi.map ρ) (mx.map ρ)).run C.P w).andThen fun z w' => .ok (.value z) w' := by
    unfold execOp; rw [ho]; simp only [Sem.run_bind]; rfl
  simp only [Ctx.op0] at hc
  split at hc
  · rename_i ax alo ahi hd h2 hlo hhi hmx
    simp only [Option.some.injEq] at hc; subst hc
    have hv := hρ x ax h2
    simp only [step] at he
    split at he
    · rename_i s e1
      split at he
      · rename_i a b ha hb
        split at he
        · rename_i hle
          simp only [Option.some.injEq, Prod.mk.injEq] at he
          obtain ⟨rfl, rfl, rfl⟩ := he
          rw [e1] at hv
          obtain rfl : mx = none := by
            cases mx with
            | none => rfl
            | some y => simp [Ctx.opdO] at hmx
          have hb' := sliceBounds_run (C := C) (isS := false) (cap := s.length) hρ hlo hhi ha hb hle.1 hle.2 (Nat.le_refl _)
          refine .same hR (x := .string ⟨⟨(s.take b).drop a⟩⟩) ?_ (.p _ _ (.str _))
          rw [hrun, sliceAt_string hd, hv.strInv]
          unfold Instr.slice
          have esz : (⟨⟨s⟩⟩ : ByteArray).size = s.length := rfl
          simp only [Sem.run_bind, run_underlying hd, Result.andThen_ok, Option.map_none, Option.isSome_none, Bool.false_eq_true, if_false, esz, hb', Sem.run_pure, extract_bytes]
        · cases he
      · cases he
    · cases he
  · rename_i e ax alo ahi amx hd h2 hlo hhi hmx
    split at hc
    · rename_i n hn
      split at hc
      · cases hc
      · rename_i hn0
        simp only [Option.some.injEq] at hc; subst hc
        have hv := hρ x ax h2
        have sz := sizeOf_run (C := C) hn
        have hn0' : ahi.isNone = true → amx.isSome = true → False := by
          intro h1 h2; simp [h1, h2] at hn0
        have mxNone : ∀ {q : Option Opd}, C.opdO vars mx = some q → q = none → mx = none := by
          intro q h1 h2
          cases mx with
          | none => rfl
          | some y => simp [Ctx.opdO, h2] at h1
        have hiSome : ∀ {m : Opd}, amx = some m → ahi ≠ none := by
          rintro m rfl rfl
          exact hn0' rfl rfl
        have bounds0 : ∀ {cap : Nat}, 0 ≤ cap → bnd ev 0 alo = some 0 → bnd ev 0 ahi = some 0 → bnd ev 0 amx = some 0 → (Instr.sliceBounds true 0 0 (lo.map ρ) (hi.map ρ) (mx.map ρ)).run C.P w = .ok (0, 0, 0) w := by
          intro _ _ ha hb hm
          cases hq : amx with
          | none =>
            rw [hq] at hmx
            rw [mxNone hmx rfl]
            exact sliceBounds_run (C := C) hρ hlo hhi ha hb (Nat.le_refl _) (Nat.le_refl _) (Nat.le_refl _)
          | some m =>
            rw [hq] at hmx hm
            exact sliceBounds0_run (C := C) hρ hlo hhi hmx ha hb (hiSome hq) (Nat.le_refl _) hm
        simp only [step] at he
        split at he
        · rename_i e1
          split at he
          · rename_i ha hb hm
            simp only [Option.some.injEq, Prod.mk.injEq] at he
            obtain ⟨rfl, rfl, rfl⟩ := he
            rw [e1] at hv
            refine .same hR (x := .slice none 0 0) ?_ (.p _ _ .nil0)
            rw [hrun, sliceAt_slice hd, hv.nil0Inv]
            unfold Instr.slice
            simp only [Sem.run_bind, run_underlying hd, Result.andThen_ok, bounds0 (cap := 0) (Nat.zero_le _) ha hb hm, sz, Sem.run_pure]
            rfl
          · cases he
        · rename_i e1
          split at he
          · rename_i ha hb hm
            simp only [Option.some.injEq, Prod.mk.injEq] at he
            obtain ⟨rfl, rfl, rfl⟩ := he
            rw [e1] at hv
            obtain ⟨ad, hx⟩ := hv.empInv
            refine .same hR (x := .slice (some ad) 0 0) ?_ (.p _ _ (.emp _))
            rw [hrun, sliceAt_slice hd, hx]
            unfold Instr.slice
            simp only [Sem.run_bind, run_underlying hd, Result.andThen_ok, bounds0 (cap := 0) (Nat.zero_le _) ha hb hm, sz, Sem.run_pure]
            rfl
          · cases he
        · rename_i es' ds e1
          split at he
          · rename_i a b ha hb
            split at he
            · rename_i hle
              obtain ⟨hab, hbl, rfl⟩ := hle
              rw [e1] at hv
              obtain ⟨ad, cap, hx, hcap, hrel⟩ := list_shift hv hab hbl
              split at he
              · simp only [Option.some.injEq, Prod.mk.injEq] at he
                obtain ⟨rfl, rfl, rfl⟩ := he
                obtain rfl := mxNone hmx rfl
                refine .same hR ?_ hrel
                rw [hrun, sliceAt_slice hd, hx]
                unfold Instr.slice
                simp only [Sem.run_bind, run_underlying hd, Result.andThen_ok, Option.map_none, sliceBounds_run (C := C) hρ hlo hhi ha hb hab hbl hcap, sz, Sem.run_pure]
                rfl
              · rename_i m
                split at he
                · rename_i hm
                  obtain ⟨hm0, rfl⟩ := hm
                  simp only [Option.some.injEq, Prod.mk.injEq] at he
                  obtain ⟨rfl, rfl, rfl⟩ := he
                  refine .same hR (x := .slice (some ad) 0 0) ?_ (.p _ _ (.emp _))
                  rw [hrun, sliceAt_slice hd, hx]
                  unfold Instr.slice
                  simp only [Sem.run_bind, run_underlying hd, Result.andThen_ok, sliceBounds0_run (C := C) hρ hlo hhi hmx ha hb (hiSome rfl) hab hm0, sz, Sem.run_pure]
                  rfl
                · cases he
            · cases he
          · cases he
        · rename_i l es' off len tag e1
          split at he
          · rename_i a b ha hb
            split at he
            · rename_i hle
              obtain ⟨hab, hbl, rfl⟩ := hle
              rw [e1] at hv
              obtain ⟨h0, ad, nn, cap, hbb, hle0, had, hx⟩ := hv.srefInv
              split at he
              · split at he
                · rename_i es'' ds fz hl
                  split at he
                  · rename_i hcond
                    obtain ⟨htag, rfl⟩ := hcond
                    obtain rfl := mxNone hmx rfl
                    obtain ⟨ob, hob, hr⟩ := hR.obj l h0 hbb
                    rw [hl] at hob; cases hob
                    obtain ⟨rfl, rfl, hcs, hlc⟩ := had (hr.1.trans htag)
                    split at he
                    · rename_i hlt
                      simp only [Option.some.injEq, Prod.mk.injEq] at he
                      obtain ⟨rfl, rfl, rfl⟩ := he
                      refine .same hR (x := .slice (some ⟨h0.b, (off + a) * es'', none⟩) (b - a) (cap - a)) ?_ (.sref l es'' (off + a) (b - a) tag h0 _ _ _ hbb hle0 (fun _ => ⟨rfl, rfl, ?_, by omega⟩))
                      · rw [hrun, sliceAt_slice hd, hx]
                        unfold Instr.slice
                        simp only [Sem.run_bind, run_underlying hd, Result.andThen_ok, Option.map_none, sliceBounds_run (C := C) hρ hlo hhi ha hb hab hbl hlc, sz, Sem.run_pure]
                        rw [if_neg (by omega), Option.map_some, Addr.add_lit, Nat.add_mul]
                      · have : off + a + (cap - a) = off + cap := by omega
                        rw [this]; exact hcs
                    · rename_i hlt
                      simp only [Option.some.injEq, Prod.mk.injEq] at he
                      obtain ⟨rfl, rfl, rfl⟩ := he
                      obtain rfl : a = b := by omega
                      have key : ∀ (q : Addr), VRel fid G w (.list es'' []) (.slice (some q) (a - a) (cap - a)) := fun q => by rw [Nat.sub_self]; exact .p _ _ (.list0 _ _ _)
                      refine .same hR (x := .slice (if cap = a then some ⟨h0.b, off * es'', none⟩ else some (Addr.add ⟨h0.b, off * es'', none⟩ (a * es''))) (a - a) (cap - a)) ?_ (by split <;> exact key _)
                      rw [hrun, sliceAt_slice hd, hx]
                      unfold Instr.slice
                      simp only [Sem.run_bind, run_underlying hd, Result.andThen_ok, Option.map_none, sliceBounds_run (C := C) hρ hlo hhi ha hb hab hbl hlc, sz, Sem.run_pure]
                      rfl
                  · cases he
                · cases he
              · rename_i m
                split at he
                · rename_i hm
                  obtain ⟨hm0, rfl⟩ := hm
                  simp only [Option.some.injEq, Prod.mk.injEq] at he
                  obtain ⟨rfl, rfl, rfl⟩ := he
                  refine .same hR (x := .slice (some ad) 0 0) ?_ (.p _ _ (.emp _))
                  rw [hrun, sliceAt_slice hd, hx]
                  unfold Instr.slice
                  simp only [Sem.run_bind, run_underlying hd, Result.andThen_ok, sliceBounds0_run (C := C) hρ hlo hhi hmx ha hb (hiSome rfl) hab hm0, sz, Sem.run_pure]
                  rfl
                · cases he
            · cases he
          · cases he
        · cases he
    · cases hc
  · cases hc

end Go.Abs
/- Addresses of elements, lengths, min and max, aggregates, slices that are made. -/
namespace Go.Abs
open Go
variable {C : Ctx} {fid : Nat → Nat} {w w' : World} {G G' : Gh} {H : Heap}
variable {vars : List Nat} {ev : Opd → V} {ρ : Operand → Value} {low low' : Nat} {v : V} {H' : Heap} {pos : String} {aop : AOp} {o : Oper}

theorem PRels.split : ∀ {vs us : List V} {zs : List Value} {I : Nat → Prop}, PRels w I (vs ++ us) zs → ∃ xs ys, zs = xs ++ ys ∧ PRels w I vs xs ∧ PRels w I us ys
  | [], us, zs, _, h => ⟨[], zs, rfl, .nil, h⟩
  | v :: vs, us, _, _, .cons _ x _ xs h hs => by
    obtain ⟨as, bs, rfl, h1, h2⟩ := PRels.split (vs := vs) hs
    exact ⟨x :: as, bs, rfl, .cons v x vs as h h1, h2⟩

theorem s_indexAddr (hR : RelH C fid G H w) (hρ : OpdRel C fid vars G w ev ρ) {t : TypeId} {x i : Operand} (ho : o.op = .indexAddr t x i) (hc : C.op0 vars pos o.op = some aop) (he : step ev H low aop = some (v, H', low')) :
    Did C fid G H w low ((execOp ρ o).run C.P w) v H' low' := by
  rw [ho] at hc
  simp only [Ctx.op0] at hc
  split at hc
  · rename_i e ax bx hd h2 h3
    split at hc
    · rename_i n hn
      split at hc
      · cases hc
      · simp only [Option.some.injEq] at hc; subst hc
        have sz := sizeOf_run (C := C) hn
        have hx := hρ x ax h2
        have hi := hρ i bx h3
        simp only [step] at he
        split at he
        · rename_i j ej
          obtain ⟨k, m, em, hm, hmj⟩ := natOf_inv ej
          rw [em] at hi
          have hrun : ∀ ad len cap, ρ x = .slice (some ad) len cap → j < len → (execOp ρ o).run C.P w = .ok (.value (.pointer (some (ad.add (j * n))))) w := by
            intro ad len cap hxx hlt
            have hcond : 0 ≤ m ∧ m < (len : Int) := by omega
            unfold execOp; rw [ho]
            simp only [hxx, hi.intInv, Instr.indexAt, asIntOf, Sem.run_bind, Sem.run_pure, Result.andThen_ok, run_underlying hd, hcond, and_self, if_true, sz, hmj]
          split at he
          · rename_i es' ds e1
            split at he
            · rename_i hes
              subst hes
              obtain ⟨d, hdd, he⟩ := Option.map_eq_some_iff.1 he
              simp only [Prod.mk.injEq] at he
              obtain ⟨rfl, rfl, rfl⟩ := he
              rw [e1] at hx
              obtain ⟨ad, cap, hxx, hcap, hq⟩ := hx.listInv
              obtain ⟨hlt, hde⟩ := List.getElem?_eq_some_iff.1 hdd
              rcases hq with rfl | ⟨b, o', vals, rfl, hI, hcell, hu, hr⟩
              · simp at hlt
              · refine .same hR (hrun _ _ _ hxx hlt) ?_
                rw [Addr.add_lit]
                have h2 : ds.drop j = d :: ds.drop (j + 1) := by rw [← hde]; exact List.drop_eq_getElem_cons hlt
                have h3 := hr.drop (j * es')
                rw [← flat_drop hu, h2, List.flatMap_cons] at h3
                obtain ⟨xs, ys, hxy, hr1, -⟩ := h3.split
                have hat := hcell.drop (j * es')
                rw [hxy] at hat
                have hat1 : CellsAt w b (o' + j * es') xs := fun a c hac => hat a c (by
                  rw [List.getElem?_append_left (by
                    rcases Nat.lt_or_ge a xs.length with q | q
                    · exact q
                    · simp [List.getElem?_eq_none q] at hac)]; exact hac)
                exact .pin _ 0 b (o' + j * es') xs hI hat1 hr1
            · cases he
          · rename_i l es' off len tag e1
            split at he
            · rename_i es'' ds fz hl
              split at he
              · rename_i hcond
                obtain ⟨rfl, rfl, htag, hjl, hol⟩ := hcond
                simp only [Option.some.injEq, Prod.mk.injEq] at he
                obtain ⟨rfl, rfl, rfl⟩ := he
                rw [e1] at hx
                obtain ⟨h0, ad, nn, cap, hbb, hle0, had, hxx⟩ := hx.srefInv
                obtain ⟨ob, hob, hr⟩ := hR.obj l h0 hbb
                rw [hl] at hob; cases hob
                obtain ⟨rfl, rfl, hcs, hlc⟩ := had (hr.1.trans htag)
                refine .same hR (hrun _ _ _ hxx hjl) (.eptr l _ (off + j) 0 tag h0 _ hbb hle0 (fun _ => ?_))
                rw [Addr.add_lit, Nat.add_zero, Nat.add_mul]
              · cases he
            · cases he
          · cases he
        · cases he
    · cases hc
  · cases hc

theorem s_builtin_run {b : Builtin} {args : Array Operand} {ts : Array TypeId} (ho : o.op = .call { callee := .builtin b, args, argTypes := ts }) :
    (execOp ρ o).run C.P w = (builtin b ts o.type (args.map fun | .const _ => true | _ => false) (args.map ρ)).run C.P w := by
  unfold execOp; rw [ho]
  simp only [resolve, invoke, Sem.run_bind, Sem.run_pure, Result.andThen_ok]
  rfl

theorem toList_two {α : Type} {a : Array α} {x y : α} (h : a.toList = [x, y]) : a = #[x, y] := by
  cases a; simp_all
theorem toList_one {α : Type} {a : Array α} {x : α} (h : a.toList = [x]) : a = #[x] := by
  cases a; simp_all

theorem s_minmax (hR : RelH C fid G H w) (hρ : OpdRel C fid vars G w ev ρ) {b : Builtin} {x y : Operand} {args : Array Operand} {ts : Array TypeId} (ho : o.op = .call { callee := .builtin b, args, argTypes := ts })
    (ha : args = #[x, y]) {mx : Bool} (hb : b = if mx then .max else .min) {ax ay : Opd} (h1 : C.opd vars x = some ax) (h2 : C.opd vars y = some ay) (he : step ev H low (.minmax mx ax ay) = some (v, H', low')) :
    Did C fid G H w low ((execOp ρ o).run C.P w) v H' low' := by
  subst ha
  have hx := hρ x ax h1
  have hy := hρ y ay h2
  simp only [step] at he
  split at he
  · rename_i k a k' b' e1 e2
    split at he
    · rename_i hk
      subst hk
      simp only [Option.some.injEq, Prod.mk.injEq] at he
      obtain ⟨rfl, rfl, rfl⟩ := he
      rw [e1] at hx; rw [e2] at hy
      refine .same hR (x := .int k (if mx then max a b' else min a b')) ?_ (.p _ _ (.int _ _))
      rw [s_builtin_run ho]
      subst hb
      cases mx
      · have hm : (if b' < a then b' else a) = min a b' := by
          rw [Int.min_def]; split <;> split <;> omega
        simp [builtin, Builtin.min_, Builtin.min2, hx.intInv, hy.intInv, hm]
      · have hm : (if a < b' then b' else a) = max a b' := by
          rw [Int.max_def]; split <;> split <;> omega
        simp [builtin, Builtin.max_, Builtin.max2, hx.intInv, hy.intInv, hm]
    · cases he
  · cases he

theorem s_len (hR : RelH C fid G H w) (hρ : OpdRel C fid vars G w ev ρ) {x : Operand} {t : TypeId} {args : Array Operand} {ts : Array TypeId} (ho : o.op = .call { callee := .builtin .len, args, argTypes := ts })
    (ha : args = #[x]) (ht : ts = #[t]) {ax : Opd} (h1 : C.opd vars x = some ax) {kind : Nat} (hk : match kind with | 0 => C.P.underlying t = some .string | 1 => ∃ e, C.P.underlying t = some (.slice e) | _ => ∃ k e, C.P.underlying t = some (.map k e))
    (he : step ev H low (.len kind ax) = some (v, H', low')) : Did C fid G H w low ((execOp ρ o).run C.P w) v H' low' := by
  subst ha; subst ht
  have hx := hρ x ax h1
  have hrun : ∀ (n : Nat), (Builtin.len_ #[t] o.type #[ρ x]).run C.P w = .ok (goInt n) w → Did C fid G H w low ((execOp ρ o).run C.P w) (.int .i64 n) H low := by
    intro n hn
    refine .same hR (x := .int .i64 n) ?_ (.p _ _ (.int _ _))
    rw [s_builtin_run ho]
    simp only [builtin, Sem.run_bind]
    have e : Array.map ρ #[x] = #[ρ x] := by simp
    rw [e, hn]; rfl
  simp only [step] at he
  split at he
  · rename_i s e1
    simp only [Option.some.injEq, Prod.mk.injEq] at he
    obtain ⟨rfl, rfl, rfl⟩ := he
    rw [e1] at hx
    refine hrun s.length ?_
    have hk : C.P.underlying t = some .string := hk
    simp only [Builtin.len_, hx.strInv, Sem.run_bind, run_underlying hk, Result.andThen_ok, List.getElem?_toArray, List.getElem?_cons_zero, Sem.run_pure]
    rfl
  · rename_i e1
    simp only [Option.some.injEq, Prod.mk.injEq] at he
    obtain ⟨rfl, rfl, rfl⟩ := he
    rw [e1] at hx
    obtain ⟨e, hk⟩ : ∃ e, C.P.underlying t = some (.slice e) := hk
    refine hrun 0 ?_
    simp only [Builtin.len_, hx.nil0Inv, Sem.run_bind, run_underlying hk, Result.andThen_ok, List.getElem?_toArray, List.getElem?_cons_zero, Sem.run_pure]
  · rename_i e1
    simp only [Option.some.injEq, Prod.mk.injEq] at he
    obtain ⟨rfl, rfl, rfl⟩ := he
    rw [e1] at hx
    obtain ⟨e, hk⟩ : ∃ e, C.P.underlying t = some (.slice e) := hk
    obtain ⟨ad, hxx⟩ := hx.empInv
    refine hrun 0 ?_
    simp only [Builtin.len_, hxx, Sem.run_bind, run_underlying hk, Result.andThen_ok, List.getElem?_toArray, List.getElem?_cons_zero, Sem.run_pure]
  · rename_i es ds e1
    simp only [Option.some.injEq, Prod.mk.injEq] at he
    obtain ⟨rfl, rfl, rfl⟩ := he
    rw [e1] at hx
    obtain ⟨e, hk⟩ : ∃ e, C.P.underlying t = some (.slice e) := hk
    obtain ⟨ad, cap, hxx, -, -⟩ := hx.listInv
    refine hrun ds.length ?_
    simp only [Builtin.len_, hxx, Sem.run_bind, run_underlying hk, Result.andThen_ok, List.getElem?_toArray, List.getElem?_cons_zero, Sem.run_pure]
  · rename_i l es off len tag e1
    obtain ⟨e, hk⟩ : ∃ e, C.P.underlying t = some (.slice e) := hk
    split at he
    · rename_i es' ds fz hl
      split at he
      · rename_i hcond
        simp only [Option.some.injEq, Prod.mk.injEq] at he
        obtain ⟨rfl, rfl, rfl⟩ := he
        rw [e1] at hx
        obtain ⟨h0, ad, nn, cap, hbb, hle0, had, hxx⟩ := hx.srefInv
        obtain ⟨ob, hob, hr⟩ := hR.obj l h0 hbb
        rw [hl] at hob; cases hob
        obtain ⟨rfl, rfl, hcs, hlc⟩ := had (hr.1.trans hcond.2)
        refine hrun nn ?_
        simp only [Builtin.len_, hxx, Sem.run_bind, run_underlying hk, Result.andThen_ok, List.getElem?_toArray, List.getElem?_cons_zero, Sem.run_pure]
      · cases he
    · cases he
  · rename_i e1
    simp only [Option.some.injEq, Prod.mk.injEq] at he
    obtain ⟨rfl, rfl, rfl⟩ := he
    rw [e1] at hx
    obtain ⟨k, e, hk⟩ : ∃ k e, C.P.underlying t = some (.map k e) := hk
    refine hrun 0 ?_
    simp only [Builtin.len_, hx.nilmInv, Sem.run_bind, run_underlying hk, Result.andThen_ok, List.getElem?_toArray, List.getElem?_cons_zero, Sem.run_pure]
    rfl
  · rename_i l e1
    obtain ⟨k, e, hk⟩ : ∃ k e, C.P.underlying t = some (.map k e) := hk
    split at he
    · rename_i ents hl
      simp only [Option.some.injEq, Prod.mk.injEq] at he
      obtain ⟨rfl, rfl, rfl⟩ := he
      rw [e1] at hx
      obtain ⟨h0, hbb, -, hxx⟩ := hx.mapInv
      obtain ⟨ob, hob, hr⟩ := hR.obj l h0 hbb
      rw [hl] at hob; cases hob
      obtain ⟨-, -, es, clk, hm, hk1, hk2, -⟩ := hr
      have hlen := hk1.length
      simp only [List.length_map, Array.length_toList] at hlen
      refine hrun ents.length ?_
      have hg : (getObj h0.b).run C.P w = .ok (.map es clk) w := by simp [getObj, Sem.run, hm]
      simp only [Builtin.len_, hxx, Sem.run_bind, run_underlying hk, Result.andThen_ok, List.getElem?_toArray, List.getElem?_cons_zero, hg, Sem.run_pure, hlen]
    · cases he
  · cases he

end Go.Abs
/- Aggregates and slices that are made. -/
namespace Go.Abs
open Go
variable {C : Ctx} {fid : Nat → Nat} {w w' : World} {G G' : Gh} {H : Heap}
variable {vars : List Nat} {ev : Opd → V} {ρ : Operand → Value} {low low' : Nat} {v : V} {H' : Heap} {pos : String} {aop : AOp} {o : Oper}

theorem foldl_set (off : Nat) : ∀ (zs : List Value) (k : Nat) (cells : Array Value), off + k + zs.length ≤ cells.size →
    ((zs.zipIdx k).foldl (fun (cs : Array Value) (p : Value × Nat) => cs.setIfInBounds (off + p.2) p.1) cells).toList = cells.toList.take (off + k) ++ zs ++ cells.toList.drop (off + k + zs.length)
  | [], k, cells, _ => by simp
  | z :: zs, k, cells, h => by
    simp only [List.length_cons] at h
    rw [List.zipIdx_cons, List.foldl_cons, foldl_set off zs (k + 1) _ (by simp; omega)]
    have e := list_seg_step cells.toList (off + k) z zs (by simp; omega)
    rw [List.length_cons]
    simpa [Array.toList_setIfInBounds, Nat.add_assoc] using e

theorem fill_cons {place : Nat → Option (Nat × Nat)} {cells : Array Value} {i : Nat} {x : Value} {rest : List (Nat × Value)} {off n : Nat} (hp : place i = some (off, n)) (hs : x.cells.size = n) (hfit : off + n ≤ cells.size) :
    ∃ cells', Instr.fill place cells ((i, x) :: rest) = Instr.fill place cells' rest ∧ cells'.toList = cells.toList.take off ++ x.cells.toList ++ cells.toList.drop (off + x.cells.toList.length) := by
  refine ⟨x.cells.zipIdx.foldl (fun cs (c, j) => cs.setIfInBounds (off + j) c) cells, ?_, ?_⟩
  · have : ¬ (x.cells.size ≠ n || decide (off + x.cells.size > cells.size)) = true := by simp; omega
    simp only [Instr.fill, hp]
    rw [if_neg (by simpa using this)]
  · rw [← Array.foldl_toList, Array.toList_zipIdx]
    have := foldl_set off x.cells.toList 0 cells (by simp; omega)
    simpa using this

theorem fillA_sound {place : Nat → Option (Nat × Nat)} : ∀ {ps : List (Nat × Value)} {as : List (Nat × Nat × V)} {cs cs' : List V} {cells : Array Value}, ps.length = as.length →
    (∀ (j : Nat) p a, ps[j]? = some p → as[j]? = some a → place p.1 = some (a.1, a.2.1) ∧ VRel fid G w a.2.2 p.2) → VRels fid G w cs cells.toList → fillA cs as = some cs' →
    ∃ cells', Instr.fill place cells ps = some cells' ∧ VRels fid G w cs' cells'.toList
  | [], [], cs, cs', cells, _, _, hv, h => by
    simp only [fillA, Option.some.injEq] at h; subst h
    exact ⟨cells, rfl, hv⟩
  | [], _ :: _, _, _, _, hl, _, _, _ => by simp at hl
  | _ :: _, [], _, _, _, hl, _, _, _ => by simp at hl
  | (i, x) :: ps, (off, n, u) :: as, cs, cs', cells, hl, hp, hv, h => by
    simp only [fillA] at h
    split at h
    · rename_i hc
      obtain ⟨hp1, hp2⟩ := hp 0 _ _ rfl rfl
      obtain ⟨r1, r2⟩ := cells_rel hp2 hc.2.2
      have hcl := hv.length
      have hxl := r1.length
      have hxs : x.cells.size = n := by rw [← Array.length_toList]; simp only at hxl; rw [hxl, hc.1]
      obtain ⟨cells1, e1, e2⟩ := fill_cons (rest := ps) hp1 hxs (by rw [← Array.length_toList, hcl]; exact hc.2.1)
      have hv1 : VRels fid G w (setCells cs off (cellsV u)) cells1.toList := by rw [e2]; exact setCells_rel off hv r1 (by rw [hc.1]; exact hc.2.1)
      obtain ⟨cells', e3, e4⟩ := fillA_sound (by simpa using hl) (fun j p a h1 h2 => hp (j + 1) p a (by simpa using h1) (by simpa using h2)) hv1 h
      exact ⟨cells', by rw [e1, e3], e4⟩
    · cases h

theorem setCells_full : ∀ (xs cs : List V), xs.length = cs.length → setCells cs 0 xs = xs := by
  have key : ∀ (xs a b : List V), xs.length = b.length → setCells (a ++ b) a.length xs = a ++ xs := by
    intro xs
    induction xs with
    | nil => intro a b h; cases b <;> simp_all [setCells]
    | cons x xs ih =>
      intro a b h
      cases b with
      | nil => simp at h
      | cons y b =>
        have := ih (a ++ [x]) b (by simpa using h)
        simp only [setCells]
        simpa using this
  intro xs cs h
  simpa using key xs [] cs h

theorem fillL_sound {es : Nat} : ∀ {ps : List (Nat × Value)} {as : List (Nat × V)} {ds ds' : List V} {cells : Array Value}, ps.length = as.length →
    (∀ (j : Nat) p a, ps[j]? = some p → as[j]? = some a → p.1 = a.1 ∧ VRel fid G w a.2 p.2) → (∀ d ∈ ds, (cellsV d).length = es) → VRels fid G w (ds.flatMap cellsV) cells.toList → fillL es ds as = some ds' →
    ∃ cells', Instr.fill (fun i => some (i * es, es)) cells ps = some cells' ∧ VRels fid G w (ds'.flatMap cellsV) cells'.toList ∧ (∀ d ∈ ds', (cellsV d).length = es) ∧ ds'.length = ds.length
  | [], [], ds, ds', cells, _, _, hu, hv, h => by
    simp only [fillL, Option.some.injEq] at h; subst h
    exact ⟨cells, rfl, hv, hu, rfl⟩
  | [], _ :: _, _, _, _, hl, _, _, _, _ => by simp at hl
  | _ :: _, [], _, _, _, hl, _, _, _, _ => by simp at hl
  | (i, x) :: ps, (i', u) :: as, ds, ds', cells, hl, hp, hu, hv, h => by
    simp only [fillL] at h
    split at h
    · rename_i hc
      obtain ⟨hp1, hp2⟩ := hp 0 _ _ rfl rfl
      simp only at hp1 hp2; subst hp1
      obtain ⟨r1, r2⟩ := cells_rel hp2 hc.2.2
      have hcl := hv.length
      have hfl := flat_length hu
      have hxl := r1.length
      have hxs : x.cells.size = es := by rw [← Array.length_toList, hxl, hc.1]
      have hi : i * es + es ≤ ds.length * es := by
        have : (i + 1) * es ≤ ds.length * es := Nat.mul_le_mul_right _ hc.2.1
        rw [Nat.succ_mul] at this; exact this
      obtain ⟨cells1, e1, e2⟩ := fill_cons (place := fun i => some (i * es, es)) (cells := cells) (rest := ps) (i := i) rfl hxs (by rw [← Array.length_toList, hcl]; omega)
      obtain ⟨d, hd⟩ : ∃ d, ds[i]? = some d := ⟨_, List.getElem?_eq_getElem hc.2.1⟩
      have hds := flat_set hu hd (d' := u) (f := 0) (xs := cellsV u) (by rw [hc.1]; omega) (setCells_full _ _ (by rw [hc.1, hu d (List.mem_of_getElem? hd)])).symm
      rw [Nat.add_zero] at hds
      have hv1 : VRels fid G w ((ds.set i u).flatMap cellsV) cells1.toList := by rw [e2, hds]; exact setCells_rel _ hv r1 (by rw [hc.1]; omega)
      obtain ⟨cells', e3, e4, e5, e6⟩ := fillL_sound (by simpa using hl) (fun j p a h1 h2 => hp (j + 1) p a (by simpa using h1) (by simpa using h2))
        (fun a ha => by rcases List.mem_or_eq_of_mem_set ha with q | rfl; exact hu a q; exact hc.1) hv1 h
      exact ⟨cells', by rw [e1, e3], e4, e5, by rw [e6]; simp⟩
    · cases h

theorem mapM_run {α β : Type} (f : α → Sem β) (g : α → β) : ∀ (l : List α), (∀ a ∈ l, ∀ w, (f a).run C.P w = .ok (g a) w) → (l.mapM f).run C.P w = .ok (l.map g) w
  | [], _ => by simp
  | a :: l, h => by
    rw [List.mapM_cons, Sem.run_bind, h a (by simp), Result.andThen_ok, Sem.run_bind, mapM_run f g l (fun b hb => h b (by simp [hb])), Result.andThen_ok, Sem.run_pure]; rfl

theorem arrMapM_run {α β : Type} (f : α → Sem β) (g : α → β) (l : Array α) (h : ∀ a ∈ l.toList, ∀ w, (f a).run C.P w = .ok (g a) w) : (l.mapM f).run C.P w = .ok (l.map g) w := by
  rw [Array.mapM_eq_mapM_toList, Sem.run_map, mapM_run f g _ h, Result.andThen_ok]
  congr 1
  apply Array.ext'
  simp

theorem zeroCells_run {t : TypeId} {z : List V} (hz : C.zeroCells t = some z) : ∃ zv, (∀ w, (zeroValue t).run C.P w = .ok zv w) ∧ (∀ (G : Gh) (w : World), VRels fid G w z zv.cells.toList) ∧ cellsOk z = true ∧
    ∃ i, C.P.info? t = some i ∧ i.zero = some zv := by
  unfold Ctx.zeroCells at hz
  split at hz
  · rename_i i hi
    split at hz
    · rename_i zv hzv
      split at hz
      · rename_i vs hvs
        split at hz
        · rename_i hok
          simp only [Option.some.injEq] at hz; subst hz
          refine ⟨zv, fun w => ?_, fun G w => PRels.toV (constVs_sound _ hvs), hok, i, hi, hzv⟩
          simp only [zeroValue, Sem.run_bind, run_typeInfo (P := C.P) w hi, Result.andThen_ok, hzv, Sem.run_pure]
        · cases hz
      · cases hz
    · cases hz
  · cases hz

theorem mapO_length {α β : Type} (f : α → Option β) : ∀ {l : List α} {r : List β}, mapO f l = some r → r.length = l.length
  | [], _, h => by simp only [mapO, Option.some.injEq] at h; subst h; rfl
  | a :: l, _, h => by
    simp only [mapO] at h
    split at h
    · split at h
      · rename_i bs hbs
        simp only [Option.some.injEq] at h; subst h
        simp [mapO_length f hbs]
      · cases h
    · cases h
theorem mapO_get {α β : Type} (f : α → Option β) : ∀ {l : List α} {r : List β}, mapO f l = some r → ∀ {j : Nat} {a : α} {b : β}, l[j]? = some a → r[j]? = some b → f a = some b
  | [], _, h, j, a, b, h1, _ => by simp at h1
  | a :: l, _, h, j, a', b', h1, h2 => by
    simp only [mapO] at h
    split at h
    · rename_i b hb
      split at h
      · rename_i bs hbs
        simp only [Option.some.injEq] at h; subst h
        cases j with
        | zero => simp at h1 h2; subst h1; subst h2; exact hb
        | succ j => exact mapO_get f hbs (by simpa using h1) (by simpa using h2)
      · cases h
    · cases h

theorem s_build (hR : RelH C fid G H w) (hρ : OpdRel C fid vars G w ev ρ) {t : TypeId} {parts : Array (Nat × Operand)} (ho : o.op = .build t parts) (hc : C.op0 vars pos o.op = some aop) (he : step ev H low aop = some (v, H', low')) :
    Did C fid G H w low ((execOp ρ o).run C.P w) v H' low' := by
  rw [ho] at hc
  have hrun : (execOp ρ o).run C.P w = ((Instr.build t (parts.map fun (i, x) => (i, ρ x))).run C.P w).andThen fun z w' => .ok (.value z) w' := by
    unfold execOp; rw [ho]; simp only [Sem.run_bind]; rfl
  -- the common part: 'ap' the parts of the simplified operation, 'place' the places
  have main : ∀ (z : List V) (ap : List (Nat × Nat × Opd)) (place : Nat → Option (Nat × Nat)), C.zeroCells t = some z → ap.length = parts.toList.length →
      (∀ (j : Nat) p a, parts.toList[j]? = some p → ap[j]? = some a → place p.1 = some (a.1, a.2.1) ∧ C.opd vars p.2 = some a.2.2) →
      (∀ (zv : Value) (w : World), (∀ w, (zeroValue t).run C.P w = .ok zv w) → ∀ cells, Instr.fill place zv.cells (parts.toList.map fun (i, x) => (i, ρ x)) = some cells →
        (Instr.build t (parts.map fun (i, x) => (i, ρ x))).run C.P w = .ok (.agg cells) w) →
      step ev H low (.build z ap) = some (v, H', low') → Did C fid G H w low ((execOp ρ o).run C.P w) v H' low' := by
    intro z ap place hz hlen hpl hb he
    obtain ⟨zv, hzr, hzrel, hok, -⟩ := zeroCells_run (fid := fid) hz
    simp only [step] at he
    obtain ⟨cs, hcs, he⟩ := Option.map_eq_some_iff.1 he
    simp only [Prod.mk.injEq] at he
    obtain ⟨rfl, rfl, rfl⟩ := he
    obtain ⟨cells, e1, e2⟩ := fillA_sound (fid := fid) (G := G) (w := w) (place := place) (ps := parts.toList.map fun (i, x) => (i, ρ x)) (as := ap.map fun p => (p.1, p.2.1, ev p.2.2))
      (by simp [hlen]) (fun j p a h1 h2 => by
        simp only [List.getElem?_map, Option.map_eq_some_iff] at h1 h2
        obtain ⟨p', hp', rfl⟩ := h1
        obtain ⟨a', ha', rfl⟩ := h2
        exact ⟨(hpl j p' a' hp' ha').1, hρ _ _ (hpl j p' a' hp' ha').2⟩) (hzrel G w) hcs
    refine Did.same hR (x := .agg cells) ?_ (.agg _ cells.toList e2)
    rw [hrun, hb zv w hzr cells e1]; rfl
  simp only [Ctx.op0] at hc
  split at hc
  · rename_i fs z hd hz
    split at hc
    · cases hc
    · rename_i hall
      obtain ⟨ap, hap, rfl⟩ := Option.map_eq_some_iff.1 hc
      have hsz : ∀ f ∈ fs.toList, ∃ n, C.sizeOf f.type = some n := by
        intro f hf
        cases hq : C.sizeOf f.type with
        | some n => exact ⟨n, rfl⟩
        | none => exact absurd (List.any_eq_true.2 ⟨f, hf, by simp [hq]⟩) hall
      refine main z ap (fun i => (fs.map fun f => (f.offset, (C.sizeOf f.type).getD 0))[i]?) hz (mapO_length _ hap) ?_ ?_ he
      · intro j p a h1 h2
        have := mapO_get _ hap h1 h2
        split at this
        · rename_i f hf
          split at this
          · rename_i n x hn hx
            simp only [Option.some.injEq] at this; subst this
            refine ⟨?_, hx⟩
            simp only [Array.getElem?_map, hf, Option.map_some, hn, Option.getD_some]
          · cases this
        · cases this
      · intro zv w hzr cells hfill
        have hm := arrMapM_run (C := C) (w := w) (fun (f : Field) => (do pure (f.offset, ← Go.sizeOf f.type) : Sem (Nat × Nat))) (fun f => (f.offset, (C.sizeOf f.type).getD 0)) fs (fun f hf w => by
          obtain ⟨n, hn⟩ := hsz f hf
          simp only [Sem.run_bind, sizeOf_run (C := C) hn, Result.andThen_ok, Sem.run_pure, hn, Option.getD_some])
        have hpl : (parts.map fun (i, x) => (i, ρ x)).toList = parts.toList.map fun (i, x) => (i, ρ x) := by simp
        unfold Instr.build
        simp only [Sem.run_bind, hzr, run_underlying hd, Result.andThen_ok, hm, hpl, hfill, Sem.run_pure]
  · rename_i n e z hd hz
    split at hc
    · rename_i sz hs
      obtain ⟨ap, hap, rfl⟩ := Option.map_eq_some_iff.1 hc
      refine main z ap (fun i => some (i * sz, sz)) hz (mapO_length _ hap) ?_ ?_ he
      · intro j p a h1 h2
        have := mapO_get _ hap h1 h2
        split at this
        · rename_i x hx
          simp only [Option.some.injEq] at this; subst this
          exact ⟨rfl, hx⟩
        · cases this
      · intro zv w hzr cells hfill
        have hpl : (parts.map fun (i, x) => (i, ρ x)).toList = parts.toList.map fun (i, x) => (i, ρ x) := by simp
        unfold Instr.build
        simp only [Sem.run_bind, hzr, run_underlying hd, Result.andThen_ok, sizeOf_run (C := C) hs, hpl, hfill, Sem.run_pure]
    · cases hc
  · cases hc

end Go.Abs
/- Slices that are made: literals, make, append, copy. -/
namespace Go.Abs
open Go
variable {C : Ctx} {fid : Nat → Nat} {w w' : World} {G G' : Gh} {H : Heap}
variable {vars : List Nat} {ev : Opd → V} {ρ : Operand → Value} {low low' : Nat} {v : V} {H' : Heap} {pos : String} {aop : AOp} {o : Oper}

/-- A new block that no object names. -/
theorem RelH.allocI (hR : RelH C fid G H w) (ob : Obj) (p : Prop) : RelH C fid ⟨G.β, fun b => G.I b ∨ (b = w.heap.size ∧ p)⟩ H (w.alloc ob) where
  obj l h hb := by
    obtain ⟨o, ho, hr⟩ := hR.obj l h hb
    exact ⟨o, ho, ORel.mono (G := G) (G' := ⟨G.β, fun b => G.I b ∨ (b = w.heap.size ∧ p)⟩) (HomesLe.refl _) (fun b (hi : G.I b) => ⟨.inl hi, alloc_old (hR.imm b hi).1⟩) (alloc_old (hR.blk l h hb)) hr⟩
  inj := hR.inj
  blk l h hb := by rw [World.size_alloc]; have := hR.blk l h hb; omega
  imm b hi := by
    rw [World.size_alloc]
    rcases hi with hi | ⟨rfl, -⟩
    · exact ⟨by have := (hR.imm b hi).1; omega, (hR.imm b hi).2⟩
    · exact ⟨by omega, fun l h hb q => by have := hR.blk l h hb; omega⟩
  fzI l h hb hf := .inl (hR.fzI l h hb hf)
  glob b o hg := ⟨.inl (hR.glob b o hg).1, by rw [alloc_old (hR.imm b (hR.glob b o hg).1).1]; exact (hR.glob b o hg).2⟩

theorem Ext.allocI (ob : Obj) (p : Prop) (m n : Nat) : Ext G w ⟨G.β, fun b => G.I b ∨ (b = w.heap.size ∧ p)⟩ (w.alloc ob) m n where
  size := by simp
  os := rfl
  output := rfl
  keep b hb _ := alloc_old hb
  homes := .refl _
  newH l h hb := .inl ⟨h, hb, .inl rfl⟩
  imm _ h := .inl h
  newI b hi := by
    rcases hi with hi | ⟨rfl, -⟩
    · exact .inl hi
    · exact .inr (.inl (Nat.le_refl _))

theorem zeroElem_cells {z : List V} (h : cellsOk z = true) : cellsV (zeroElem z) = z := by
  unfold zeroElem
  split
  · rename_i x
    simp only [cellsOk, Bool.and_true] at h
    cases x <;> first | rfl | simp [cellOk] at h
  · rfl

theorem replicate_rel {z : List V} {zv : Array Value} (hz : VRels fid G w z zv.toList) (hok : cellsOk z = true) (hpos : 0 < zv.size) : ∀ (n : Nat),
    VRels fid G w ((List.replicate n (zeroElem z)).flatMap cellsV) ((List.range (n * zv.size)).map fun i => zv[i % zv.size]!)
  | 0 => by simpa using VRels.nil
  | n + 1 => by
    have ih := replicate_rel hz hok hpos n
    have e1 : (n + 1) * zv.size = zv.size + n * zv.size := by rw [Nat.succ_mul, Nat.add_comm]
    rw [List.replicate_succ, List.flatMap_cons, zeroElem_cells hok, e1, List.range_add, List.map_append, List.map_map]
    have e2 : (List.range zv.size).map (fun i => zv[i % zv.size]!) = zv.toList := by
      apply List.ext_getElem?
      intro j
      simp only [List.getElem?_map]
      by_cases hj : j < zv.size
      · rw [List.getElem?_range hj]
        simp [Nat.mod_eq_of_lt hj, hj]
      · rw [List.getElem?_eq_none (by simpa using hj), List.getElem?_eq_none (by simpa using hj)]; rfl
    have e3 : ((fun i => zv[i % zv.size]!) ∘ (zv.size + ·)) = fun i => zv[i % zv.size]! := by
      funext i; simp
    rw [e2, e3]
    exact hz.append ih

theorem replicate_u {z : List V} (hok : cellsOk z = true) {n k : Nat} (hk : z.length = k) : ∀ d ∈ List.replicate n (zeroElem z), (cellsV d).length = k := by
  intro d hd
  rw [(List.mem_replicate.1 hd).2, zeroElem_cells hok, hk]

/-- A new row object. -/
theorem rowObj (hR : RelH C fid G H w) {es : Nat} {ds : List V} {c : Array Value} {vals rest : List Value} {e : TypeId} (hes : 0 < es) (hn : 0 < ds.length) (hu : ∀ d ∈ ds, (cellsV d).length = es) (hc : c.toList = vals ++ rest)
    (hv : VRels fid G w (ds.flatMap cellsV) vals) :
    ORel C fid ⟨upd G.β H.length ⟨w.heap.size, ds.length, c.size, false⟩, G.I⟩ (w.alloc (.cells c e)) ⟨w.heap.size, ds.length, c.size, false⟩ (.row es ds false) :=
  ⟨rfl, hn, rfl, hes, hu, c, e, vals, rest, alloc_new _ _, rfl, hc, hv.ext hR (Ext.push hR _ ds.length c.size 0)⟩

theorem s_lit (hR : RelH C fid G H w) (hρ : OpdRel C fid vars G w ev ρ) {t : TypeId} {len : Nat} {parts : Array (Nat × Operand)} (ho : o.op = .buildSlice t len parts) (hc : C.op0 vars pos o.op = some aop) (he : step ev H low aop = some (v, H', low')) :
    Did C fid G H w low ((execOp ρ o).run C.P w) v H' low' := by
  rw [ho] at hc
  have hrun : (execOp ρ o).run C.P w = ((Instr.buildSlice t len (parts.map fun (i, x) => (i, ρ x))).run C.P w).andThen fun z w' => .ok (.value z) w' := by
    unfold execOp; rw [ho]; simp only [Sem.run_bind]; rfl
  simp only [Ctx.op0] at hc
  split at hc
  · rename_i e hd
    split at hc
    · rename_i n z ap hn hz hap
      split at hc
      · cases hc
      · rename_i hcond
        simp only [not_or, Nat.not_lt, ne_eq, Classical.not_not] at hcond
        obtain ⟨hn0, hlim, hzl⟩ := hcond
        obtain ⟨im, rfl⟩ : ∃ im, aop = .lit n z len ap im := ⟨_, (Option.some.inj hc).symm⟩
        obtain ⟨zv, hzr, hzrel, hok, -⟩ := zeroCells_run (fid := fid) hz
        have hlen := mapO_length _ hap
        have hzsz : zv.cells.size = n := by rw [← Array.length_toList, (hzrel G w).length, hzl]
        simp only [step] at he
        split at he
        · rename_i vs H1 low1 hf
          have hvals : VRels fid G w (ap.map fun p => ev p.2) (parts.toList.map fun p => ρ p.2) := by
            refine VRels.mem_of_forall (by simp [hlen]) (fun j a x h1 h2 => ?_)
            simp only [List.getElem?_map, Option.map_eq_some_iff] at h1 h2
            obtain ⟨a', ha', rfl⟩ := h1
            obtain ⟨p', hp', rfl⟩ := h2
            have := mapO_get _ hap hp' ha'
            obtain ⟨ax, hx, rfl⟩ := Option.map_eq_some_iff.1 this
            exact hρ _ _ hx
          obtain ⟨G1, f1, k1⟩ := freezeVs_sound hR hvals hf
          have hvl' : vs.length = ap.length := by have := k1.length; simp only [List.length_map] at this; omega
          split at he
          · rename_i ds hds
            have hpsl : ((parts.map fun (i, x) => (i, ρ x)).toList) = parts.toList.map fun (i, x) => (i, ρ x) := by simp
            have hinit : VRels fid G1 w ((List.replicate len (zeroElem z)).flatMap cellsV) (((Array.range (len * n)).map fun i => (if len * n = 0 then #[] else zv.cells)[i % (if len * n = 0 then #[] else zv.cells : Array Value).size]!).toList) := by
              by_cases hl0 : len = 0
              · subst hl0; simpa using VRels.nil
              · have h0 : len * n ≠ 0 := Nat.mul_ne_zero hl0 hn0
                have := replicate_rel (hzrel G1 w) hok (by omega) len
                rw [hzsz] at this
                simpa [h0, hzsz] using this
            obtain ⟨cells, e1, e2, e3, e4⟩ := fillL_sound (fid := fid) (G := G1) (w := w) (es := n) (ps := parts.toList.map fun (i, x) => (i, ρ x)) (as := (ap.zip vs).map fun (p, v) => (p.1, v))
              (by simp [hlen, hvl']) (fun j p a h1 h2 => by
                simp only [List.getElem?_map, Option.map_eq_some_iff] at h1 h2
                obtain ⟨p', hp', rfl⟩ := h1
                obtain ⟨⟨a', v'⟩, ha', rfl⟩ := h2
                rw [List.getElem?_zip_eq_some] at ha'
                have := mapO_get _ hap hp' ha'.1
                obtain ⟨ax, hx, rfl⟩ := Option.map_eq_some_iff.1 this
                refine ⟨rfl, ?_⟩
                obtain ⟨y, hy, hrel⟩ := k1.get ha'.2
                simp only [List.getElem?_map, hp', Option.map_some, Option.some.injEq] at hy
                subst hy; exact hrel) (replicate_u hok hzl) hinit hds
            rw [List.length_replicate] at e4
            have hb : (Instr.buildSlice t len (parts.map fun (i, x) => (i, ρ x))).run C.P w = .ok (.slice (some ⟨w.heap.size, 0, none⟩) len len) (w.alloc (.cells cells e)) := by
              unfold Instr.buildSlice
              have hl : ¬ len * n > 2 ^ 24 := by omega
              simp only [Sem.run_bind, run_underlying hd, Result.andThen_ok, sizeOf_run (C := C) hn, hl, if_false, hpsl]
              by_cases h0 : len * n = 0
              · simp only [h0, if_true] at e1 ⊢
                simp only [Sem.run_bind, Sem.run_pure, Result.andThen_ok, e1, newRow, run_newObj, World.alloc_eq]
              · simp only [h0, if_false] at e1 ⊢
                simp only [Sem.run_bind, Sem.run_pure, Result.andThen_ok, hzr, e1, newRow, run_newObj, World.alloc_eq]
            have hval : (execOp ρ o).run C.P w = .ok (.value (.slice (some ⟨w.heap.size, 0, none⟩) len len)) (w.alloc (.cells cells e)) := by rw [hrun, hb]; rfl
            have hes : 0 < n := Nat.pos_of_ne_zero hn0
            have emp : Did C fid G H w low ((execOp ρ o).run C.P w) .emp H1 low1 → True := fun _ => trivial
            have mkEmp : len = 0 → Did C fid G H w low ((execOp ρ o).run C.P w) .emp H1 low1 := by
              intro h0
              refine Did.afterFreeze f1 ⟨_, _, _, .inl hval, f1.rel.allocI _ False, fun m _ => Ext.allocI _ _ _ _, ?_, Nat.le_refl _, Nat.le_refl _⟩
              subst h0; exact .p _ _ (.emp _)
            split at he
            · split at he
              · rename_i him hp
                by_cases h0 : len = 0
                · simp only [h0, if_true, Option.some.injEq, Prod.mk.injEq] at he
                  obtain ⟨rfl, rfl, rfl⟩ := he
                  exact mkEmp h0
                · simp only [h0, if_false, Option.some.injEq, Prod.mk.injEq] at he
                  obtain ⟨rfl, rfl, rfl⟩ := he
                  refine Did.afterFreeze f1 ⟨_, _, ⟨G1.β, fun b => G1.I b ∨ (b = w.heap.size ∧ True)⟩, .inl hval, f1.rel.allocI _ True, fun m _ => Ext.allocI _ _ _ _, ?_, Nat.le_refl _, Nat.le_refl _⟩
                  have hx := Ext.allocI (G := G1) (w := w) (.cells cells e) True 0 H1.length
                  have key := PRel.list (w := w.alloc (.cells cells e)) (I := fun b => G1.I b ∨ (b = w.heap.size ∧ True)) n ds w.heap.size 0 len cells.toList (.inr ⟨rfl, trivial⟩)
                    (CellsAt.of_row (rest := []) (alloc_new _ _) (by simp)) e3 ((e2.ext f1.rel hx).toP (isPs_flat hp)) (by omega)
                  rw [e4] at key
                  exact .p _ _ key
              · cases he
            · split at he
              · rename_i h0
                simp only [Option.some.injEq, Prod.mk.injEq] at he
                obtain ⟨rfl, rfl, rfl⟩ := he
                exact mkEmp h0
              · rename_i h0
                simp only [Option.some.injEq, Prod.mk.injEq] at he
                obtain ⟨rfl, rfl, rfl⟩ := he
                have hcsz : cells.size = len * n := by
                  rw [← Array.length_toList, e2.length, flat_length e3, e4]
                refine Did.afterFreeze f1 (Did.alloc f1.rel ds.length cells.size hval (rowObj f1.rel hes (by omega) e3 (rest := []) (by simp) e2) ?_)
                refine .sref _ n 0 len len ⟨w.heap.size, ds.length, cells.size, false⟩ _ _ _ (upd_same _ _ _) (by simp only; omega) (fun _ => ⟨by simp, rfl, ?_, Nat.le_refl _⟩)
                rw [hcsz, Nat.zero_add]; exact Nat.le_refl _
          · cases he
        · cases he
    · cases hc
  · cases hc

end Go.Abs
/- make, append, copy. -/
namespace Go.Abs
open Go
variable {C : Ctx} {fid : Nat → Nat} {w w' : World} {G G' : Gh} {H : Heap}
variable {vars : List Nat} {ev : Opd → V} {ρ : Operand → Value} {low low' : Nat} {v : V} {H' : Heap} {pos : String} {aop : AOp} {o : Oper}

theorem wrap64_small {n : Int} (h0 : 0 ≤ n) (h : n ≤ 1099511627776) : IntKind.i64.wrap n = n := by
  have e : n % (2 ^ IntKind.i64.bits : Int) = n := Int.emod_eq_of_lt h0 (by show n < (2 ^ 64 : Int); omega)
  unfold IntKind.wrap
  rw [e]
  have : ¬ (n ≥ (2 ^ (IntKind.i64.bits - 1) : Int)) := by show ¬ n ≥ (2 ^ 63 : Int); omega
  simp [this]

theorem s_mkSlice (hR : RelH C fid G H w) (hρ : OpdRel C fid vars G w ev ρ) {t : TypeId} {l c : Operand} (ho : o.op = .makeSlice t l c) (hc : C.op0 vars pos o.op = some aop) (he : step ev H low aop = some (v, H', low')) :
    Did C fid G H w low ((execOp ρ o).run C.P w) v H' low' := by
  rw [ho] at hc
  simp only [Ctx.op0] at hc
  split at hc
  · rename_i e hd
    split at hc
    · rename_i i z al ac hi hz h1 h2
      split at hc
      · cases hc
      · rename_i hcond
        simp only [not_or, ne_eq, Classical.not_not] at hcond
        simp only [Option.some.injEq] at hc; subst hc
        obtain ⟨zv, hzr, hzrel, hok, -⟩ := zeroCells_run (fid := fid) hz
        have hzsz : zv.cells.size = i.size := by rw [← Array.length_toList, (hzrel G w).length, hcond.2]
        have hl := hρ l al h1
        have hcc := hρ c ac h2
        simp only [step] at he
        split at he
        · rename_i k n k' m e1 e2
          split at he
          · rename_i hb
            obtain ⟨rfl, hn0, hbound⟩ := hb
            rw [e1] at hl; rw [e2] at hcc
            obtain ⟨j, rfl⟩ := Int.eq_ofNat_of_zero_le hn0
            have hb1 : j ≤ 1099511627776 := by
              have : (j : Int) * 1 ≤ (j : Int) * ((i.bytes : Int) + 1) := Int.mul_le_mul_of_nonneg_left (by omega) hn0
              omega
            have hb2 : (i.bytes : Int) * (j : Int) ≤ 1099511627776 := by
              have : (j : Int) * ((i.bytes : Int) + 1) = (i.bytes : Int) * (j : Int) + j := by rw [Int.mul_add, Int.mul_comm]; omega
              omega
            have hw := wrap64_small hn0 (by omega : (j : Int) ≤ 1099511627776)
            have hpos : 0 < i.size := Nat.pos_of_ne_zero hcond.1
            have hrun : ∃ cells, (execOp ρ o).run C.P w = .ok (.value (.slice (some ⟨w.heap.size, 0, none⟩) j j)) (w.alloc (.cells cells e)) ∧ cells.toList = (List.range (j * i.size)).map (fun q => zv.cells[q % zv.cells.size]!) := by
              refine ⟨(Array.range (j * i.size)).map (fun q => (if j * i.size = 0 then #[] else zv.cells : Array Value)[q % (if j * i.size = 0 then #[] else zv.cells : Array Value).size]!), ?_, ?_⟩
              · unfold execOp; rw [ho]
                have ht1 : ¬ ((decide ((j : Int) < 0) || decide ((i.bytes : Int) * (j : Int) > 2 ^ 48)) = true) := by simp; omega
                have ht2 : ¬ ((decide ((j : Int) < 0) || decide ((i.bytes : Int) * (j : Int) > 2 ^ 48) || decide ((j : Int) < 0) || decide ((j : Int) > (j : Int))) = true) := by simp; omega
                simp only [hl.intInv, hcc.intInv, Instr.makeSlice, asInt, asIntOf, Sem.run_bind, Sem.run_pure, Result.andThen_ok, run_underlying hd, run_typeInfo (P := C.P) w hi, hw]
                rw [if_neg (by simpa using ht2)]
                simp only [Sem.run_bind, run_askRoom, Result.andThen_ok, sizeOf, run_typeInfo (P := C.P) w hi, Sem.run_pure, Int.toNat_natCast]
                by_cases h0 : j * i.size = 0
                · simp only [h0, if_true, Sem.run_bind, Sem.run_pure, Result.andThen_ok, newRow, run_newObj, World.alloc_eq]
                · simp only [h0, if_false, Sem.run_bind, Sem.run_pure, Result.andThen_ok, hzr, newRow, run_newObj, World.alloc_eq]
              · by_cases h0 : j * i.size = 0
                · simp [h0]
                · simp [h0]
            obtain ⟨cells, hrun, hcl⟩ := hrun
            split at he
            · rename_i hj0
              simp only [Option.some.injEq, Prod.mk.injEq] at he
              obtain ⟨rfl, rfl, rfl⟩ := he
              obtain rfl : j = 0 := by omega
              exact ⟨_, _, _, .inl hrun, hR.allocI _ False, fun m _ => Ext.allocI _ _ _ _, .p _ _ (.emp _), Nat.le_refl _, Nat.le_refl _⟩
            · rename_i hj0
              simp only [Option.some.injEq, Prod.mk.injEq, Int.toNat_natCast] at he
              obtain ⟨rfl, rfl, rfl⟩ := he
              have hrep := replicate_rel (hzrel G w) hok (by omega) j
              rw [hzsz] at hrep hcl
              rw [← hcl] at hrep
              have hu := replicate_u hok (n := j) hcond.2
              have hcs : cells.size = j * i.size := by rw [← Array.length_toList, hrep.length, flat_length hu, List.length_replicate]
              refine Did.alloc hR (List.replicate j (zeroElem z)).length cells.size hrun (rowObj hR hpos (by simp; omega) hu (rest := []) (by simp) hrep) ?_
              refine .sref _ _ 0 j j ⟨w.heap.size, (List.replicate j (zeroElem z)).length, cells.size, false⟩ _ _ _ (upd_same _ _ _) (by simp) (fun _ => ⟨by simp, rfl, ?_, Nat.le_refl _⟩)
              rw [hcs, Nat.zero_add]; exact Nat.le_refl _
          · cases he
        · cases he
    · cases hc
  · cases hc

/-! ### append -/

/-- What the elements of a slice are in memory. -/
theorem elems_sound (hR : RelH C fid G H w) {es : Nat} {a : V} {xs : List V} {x : Value} (ha : VRel fid G w a x) (he : elems H es a = some xs) :
    ∃ ad cap, x = .slice ad xs.length cap ∧ (xs ≠ [] → ∃ b off vals, ad = some ⟨b, off, none⟩ ∧ CellsAt w b off vals ∧ VRels fid G w (xs.flatMap cellsV) vals ∧ ∀ d ∈ xs, (cellsV d).length = es) := by
  unfold elems at he
  split at he
  · simp only [Option.some.injEq] at he; subst he
    exact ⟨none, 0, ha.nil0Inv, fun h => absurd rfl h⟩
  · simp only [Option.some.injEq] at he; subst he
    obtain ⟨ad, hx⟩ := ha.empInv
    exact ⟨some ad, 0, hx, fun h => absurd rfl h⟩
  · split at he
    · rename_i hes
      simp only [Option.some.injEq] at he; subst he; subst hes
      obtain ⟨ad, cap, hx, -, hq⟩ := ha.listInv
      refine ⟨some ad, cap, hx, fun hne => ?_⟩
      rcases hq with rfl | ⟨b, off, vals, rfl, hI, hc, hu, hr⟩
      · exact absurd rfl hne
      · exact ⟨b, off, vals, rfl, hc, hr.toV, hu⟩
    · cases he
  · rename_i l es' off len tag
    split at he
    · rename_i es'' ds fz hl
      split at he
      · rename_i hcond
        obtain ⟨rfl, rfl, htag, hol⟩ := hcond
        simp only [Option.some.injEq] at he; subst he
        obtain ⟨h0, ad, nn, cap, hbb, hle0, had, hxx⟩ := ha.srefInv
        obtain ⟨ob, hob, hr⟩ := hR.obj l h0 hbb
        rw [hl] at hob; cases hob
        obtain ⟨ht, hpos, hf, hes, hu, c, e, vals, rest, hc, hcs, hv, hrel⟩ := hr
        obtain ⟨rfl, rfl, -, -⟩ := had (ht.trans htag)
        have hlen : ((ds.drop off).take nn).length = nn := by simp; omega
        rw [hlen]
        refine ⟨_, cap, hxx, fun _ => ⟨h0.b, off * es'', (vals.drop (off * es'')).take (nn * es''), rfl, ?_, ?_, fun d hd => hu d (List.mem_of_mem_drop (List.mem_of_mem_take hd))⟩⟩
        · have := ((CellsAt.of_row hc hv).drop (off * es'')).take (nn * es'')
          rwa [Nat.zero_add] at this
        · have hu' : ∀ d ∈ ds.drop off, (cellsV d).length = es'' := fun d hd => hu d (List.mem_of_mem_drop hd)
          rw [flat_take hu', flat_drop hu]
          exact (hrel.drop _).take _
      · cases he
    · cases he
  · cases he

theorem firstCells_run {size n cap : Nat} {b off : Nat} {vals : List Value} (hc : CellsAt w b off vals) (hl : vals.length = n * size) :
    (Builtin.firstCells size n (.slice (some ⟨b, off, none⟩) n cap)).run C.P w = .ok vals.toArray w := by
  have := run_loadCells_list (P := C.P) w ⟨b, off, none⟩ vals (fun j v hj => by rw [Addr.add_lit]; exact hc j v hj)
  rw [hl] at this
  exact this

theorem freezeVs_cells : ∀ {vs vs' : List V} {xs : List Value} {G : Gh} {H H' : Heap} {low low' : Nat}, RelH C fid G H w → VRels fid G w (vs.flatMap cellsV) xs → freezeVs H low vs = some (vs', H', low') →
    ∃ G', Froze C fid G H w low G' H' low' ∧ VRels fid G' w (vs'.flatMap cellsV) xs ∧ vs'.length = vs.length ∧ ∀ es, (∀ d ∈ vs, (cellsV d).length = es) → ∀ d ∈ vs', (cellsV d).length = es
  | [], _, _, G, H, H', low, low', hR, h, he => by
    simp only [freezeVs, Option.some.injEq, Prod.mk.injEq] at he
    obtain ⟨rfl, rfl, rfl⟩ := he
    exact ⟨G, .refl hR _, h, rfl, fun _ h => h⟩
  | v :: r, _, xs, G, H, H', low, low', hR, h, he => by
    simp only [freezeVs] at he
    split at he
    · rename_i v1 H1 low1 h1
      split at he
      · rename_i r2 H2 low2 h2
        simp only [Option.some.injEq, Prod.mk.injEq] at he
        obtain ⟨rfl, rfl, rfl⟩ := he
        rw [List.flatMap_cons] at h
        obtain ⟨ys, zs, rfl, hy, hz⟩ := h.split
        obtain ⟨G1, f1, k1, l1⟩ := freezeV_cells hR hy h1
        obtain ⟨G2, f2, k2, l2, u2⟩ := freezeVs_cells f1.rel (hz.ext hR (f1.ext 0 (Nat.zero_le _))) h2
        refine ⟨G2, f1.trans f2, ?_, by simp [l2], fun es hu d hd => ?_⟩
        · rw [List.flatMap_cons]; exact (k1.ext f1.rel (f2.ext 0 (Nat.zero_le _))).append k2
        · rcases List.mem_cons.1 hd with rfl | hd
          · rw [l1]; exact hu v (by simp)
          · exact u2 es (fun d hd => hu d (by simp [hd])) d hd
      · cases he
    · cases he

end Go.Abs
/- append and copy. -/
namespace Go.Abs
open Go
variable {C : Ctx} {fid : Nat → Nat} {w w' : World} {G G' : Gh} {H : Heap}
variable {vars : List Nat} {ev : Opd → V} {ρ : Operand → Value} {low low' : Nat} {v : V} {H' : Heap} {pos : String} {aop : AOp} {o : Oper}

theorem append_fits {P : Program} {t u ty e e' : TypeId} {i : TypeInfo} (hd : P.underlying t = some (.slice e)) (hu : P.underlying u = some (.slice e')) (hi : P.info? e = some i) {base xb : Option Addr} {sLen sCap n xc : Nat} {news : List Value}
    (hx : (Builtin.firstCells i.size n (.slice xb n xc)).run P w = .ok news.toArray w) (hfit : sLen + n ≤ sCap) :
    (Builtin.append_ #[t, u] ty #[.slice base sLen sCap, .slice xb n xc]).run P w =
      ((match base with | some a => storeCells (a.add (sLen * i.size)) news | none => pure ()).run P w).andThen fun _ w' => .ok (.slice base (sLen + n) sCap) w' := by
  cases base with
  | none => simp [Builtin.append_, run_underlying hd, run_underlying hu, sizeOf, typeInfo, hi, Builtin.lenOf, hfit, hx]
  | some a => simp [Builtin.append_, run_underlying hd, run_underlying hu, sizeOf, typeInfo, hi, Builtin.lenOf, hfit, hx]

theorem append_grows {P : Program} {t u ty e e' : TypeId} {i : TypeInfo} {zv : Value} (hd : P.underlying t = some (.slice e)) (hu : P.underlying u = some (.slice e')) (hi : P.info? e = some i) (hz : i.zero = some zv)
    {base xb : Option Addr} {sLen sCap n xc : Nat} {olds news : List Value}
    (hx : (Builtin.firstCells i.size n (.slice xb n xc)).run P w.drew = .ok news.toArray w.drew) (ho : (Builtin.firstCells i.size sLen (.slice base sLen sCap)).run P w.drew = .ok olds.toArray w.drew)
    (hfit : sCap < sLen + n) (hb : (sLen + n) * (i.bytes + 1) ≤ 1099511627776) :
    ∃ newCap, sLen + n ≤ newCap ∧ (Builtin.append_ #[t, u] ty #[.slice base sLen sCap, .slice xb n xc]).run P w =
      .ok (.slice (some ⟨w.heap.size, 0, none⟩) (sLen + n) newCap) (w.drew.alloc (.cells (olds.toArray ++ news.toArray ++ Builtin.zeroCells zv.cells (newCap - (sLen + n))) e)) := by
  have h1 : ¬ sLen + n ≤ sCap := by omega
  have hm : (sLen + n) * i.bytes + (sLen + n) = (sLen + n) * (i.bytes + 1) := by rw [Nat.mul_succ]
  have h2 : ¬ (((sLen + n : Nat) : Int) > 9223372036854775807) := by omega
  have h3 := growslice_fits (need := sLen + n) (old := sCap) (bytes := i.bytes) hfit (by omega)
  have h4 : ¬ (281474976710656 < Builtin.nextslicecap (sLen + n) sCap * i.bytes) := by omega
  refine ⟨sLen + n + (w.tape w.drawn (.appendCap (sLen + n) sCap e)) % (9223372036854775808 - (sLen + n)), Nat.le_add_right _ _, ?_⟩
  have h2' : ¬ (9223372036854775807 < (sLen : Int) + (n : Int)) := by omega
  simp [Builtin.append_, run_underlying hd, run_underlying hu, sizeOf, typeInfo, hi, Builtin.lenOf, h1, h2', h4, Question.forced, Question.cut, hx, ho, zeroValue, hz, newRow]
  congr 2
  apply Array.ext'
  simp

theorem zeroCells_size (z : Array Value) (n : Nat) : (Builtin.zeroCells z n).size = n * z.size := by simp [Builtin.zeroCells]

theorem cellsOk_oneCell {xs : List V} {vals : List Value} (h : VRels fid G w xs vals) (hc : cellsOk xs = true) : ∀ x ∈ vals, x.oneCell' = true := oneCells_of_rel h hc

/-- A new row out of nothing. -/
theorem Did.newRow (hR : RelH C fid G H w) {low : Nat} {r : Result Next} {es : Nat} {ds : List V} {c : Array Value} {vals rest : List Value} {e : TypeId} {cap : Nat} (hes : 0 < es) (hn : 0 < ds.length) (hu : ∀ d ∈ ds, (cellsV d).length = es)
    (hc : c.toList = vals ++ rest) (hv : VRels fid G w (ds.flatMap cellsV) vals) (hcap : cap * es ≤ c.size) (hle : ds.length ≤ cap)
    (hr : r = .ok (.value (.slice (some ⟨w.heap.size, 0, none⟩) ds.length cap)) (w.drew.alloc (.cells c e))) :
    Did C fid G H w low r (.sref H.length es 0 ds.length ds.length) (H ++ [.row es ds false]) low := by
  have hR' : RelH C fid G H w.drew := hR.sameHeap rfl
  have hE : ∀ m n, Ext G w G w.drew m n := fun m n => Ext.sameHeap (w := w) (w' := w.drew) rfl rfl rfl m n
  have hv' := hv.ext hR (hE 0 0)
  refine ⟨_, _, ⟨upd G.β H.length ⟨w.drew.heap.size, ds.length, c.size, false⟩, G.I⟩, .inl hr, hR'.push _ _ ds.length c.size (rowObj hR' hes hn hu hc hv'), fun m _ => (hE m H.length).trans (Ext.push hR' _ _ _ m), ?_, Nat.le_refl _, by simp⟩
  exact .sref _ es 0 _ _ ⟨w.drew.heap.size, ds.length, c.size, false⟩ _ _ _ (upd_same _ _ _) (Nat.le_refl _) (fun _ => ⟨by simp, rfl, by rw [Nat.zero_add]; exact hcap, hle⟩)

theorem s_append (hR : RelH C fid G H w) (hρ : OpdRel C fid vars G w ev ρ) {a b : Operand} {t u e e' : TypeId} {i : TypeInfo} {zv : Value} {args : Array Operand} {ts : Array TypeId} (ho : o.op = .call { callee := .builtin .append, args, argTypes := ts })
    (ha : args = #[a, b]) (ht : ts = #[t, u]) {aa ab : Opd} (h1 : C.opd vars a = some aa) (h2 : C.opd vars b = some ab) (hd : C.P.underlying t = some (.slice e)) (hu : C.P.underlying u = some (.slice e')) (hi : C.P.info? e = some i)
    (hz : i.zero = some zv) (hzs : zv.cells.size = i.size) (hpos : 0 < i.size) (he : step ev H low (.append i.size i.bytes aa ab) = some (v, H', low')) : Did C fid G H w low ((execOp ρ o).run C.P w) v H' low' := by
  subst ha; subst ht
  have hx := hρ a aa h1
  have hy := hρ b ab h2
  have hrun : (execOp ρ o).run C.P w = ((Builtin.append_ #[t, u] o.type #[ρ a, ρ b]).run C.P w).andThen fun z w' => .ok (.value z) w' := by
    rw [s_builtin_run ho]
    simp only [builtin, Sem.run_bind, List.map_toArray, List.map_cons, List.map_nil]
    rfl
  simp only [step] at he
  split at he
  · rename_i xs hxs
    obtain ⟨yad, ycap, hyv, hyc⟩ := elems_sound hR hy hxs
    split at he
    · rename_i xs' H1 low1 hf
      -- the news in memory
      have news : ∃ vals G1, Froze C fid G H w low G1 H1 low1 ∧ VRels fid G1 w (xs'.flatMap cellsV) vals ∧ xs'.length = xs.length ∧ (∀ d ∈ xs', (cellsV d).length = i.size) ∧
          ∀ w'', w''.heap = w.heap → (Builtin.firstCells i.size xs.length (.slice yad xs.length ycap)).run C.P w'' = .ok vals.toArray w'' := by
        by_cases hne : xs = []
        · subst hne
          simp only [freezeVs, Option.some.injEq, Prod.mk.injEq] at hf
          obtain ⟨rfl, rfl, rfl⟩ := hf
          refine ⟨[], G, .refl hR _, .nil, rfl, by simp, fun w'' _ => ?_⟩
          cases yad with
          | none => simp [Builtin.firstCells]
          | some ad => simp [Builtin.firstCells, loadCells, loadCellsFrom]
        · obtain ⟨bb, off, vals, rfl, hcells, hrel, hu'⟩ := hyc hne
          obtain ⟨G1, f1, k1, l1, u1⟩ := freezeVs_cells hR hrel hf
          refine ⟨vals, G1, f1, k1, l1, u1 _ hu', fun w'' hw => ?_⟩
          exact firstCells_run (fun j x hj => by rw [cell_of_block (w := w) (w' := w'') (by rw [hw])]; exact hcells j x hj) (by rw [hrel.length, flat_length hu'])
      obtain ⟨vals, G1, f1, k1, l1, u1, hfirst⟩ := news
      rw [hyv] at hrun
      have hx1 := hx.ext hR (f1.ext 0 (Nat.zero_le _))
      refine Did.afterFreeze f1 ?_
      have hR1 := f1.rel
      split at he
      · -- nothing is appended
        rename_i hemp
        have hxs0 : xs = [] := by
          have : xs' = [] := by simpa using hemp
          rw [this] at l1; exact List.length_eq_zero_iff.1 l1.symm
        have hv0 : vals = [] := by
          have := k1.length
          have e0 : xs' = [] := by simpa using hemp
          rw [e0] at this; exact List.length_eq_zero_iff.1 (by simpa using this)
        subst hxs0; subst hv0
        have same : ∀ base n cap, ρ a = .slice base n cap → n ≤ cap → (execOp ρ o).run C.P w = .ok (.value (ρ a)) w := by
          intro base n cap hs hle
          rw [hrun, hs, append_fits (P := C.P) hd hu hi (hfirst w rfl) (by simpa using hle)]
          cases base <;> simp [storeCells]
        split at he
        · rename_i e1
          simp only [Option.some.injEq, Prod.mk.injEq] at he
          obtain ⟨rfl, rfl, rfl⟩ := he
          rw [e1] at hx1
          exact .same hR1 (same _ _ _ hx1.nil0Inv (Nat.le_refl _)) hx1
        · rename_i e1
          simp only [Option.some.injEq, Prod.mk.injEq] at he
          obtain ⟨rfl, rfl, rfl⟩ := he
          rw [e1] at hx1
          obtain ⟨ad, hxx⟩ := hx1.empInv
          exact .same hR1 (same _ _ _ hxx (Nat.le_refl _)) hx1
        · rename_i es' ds e1
          simp only [Option.some.injEq, Prod.mk.injEq] at he
          obtain ⟨rfl, rfl, rfl⟩ := he
          rw [e1] at hx1
          obtain ⟨ad, cap, hxx, hcap, -⟩ := hx1.listInv
          exact .same hR1 (same _ _ _ hxx hcap) hx1
        · rename_i l es' off len tag e1
          rw [e1] at hx1
          split at he
          · rename_i es'' ds fz hl
            split at he
            · rename_i htag
              simp only [Option.some.injEq, Prod.mk.injEq] at he
              obtain ⟨rfl, rfl, rfl⟩ := he
              obtain ⟨h0, ad, nn, cap, hbb, hle0, had, hxx⟩ := hx1.srefInv
              obtain ⟨ob, hob, hr⟩ := hR1.obj l h0 hbb
              rw [hl] at hob; cases hob
              obtain ⟨rfl, rfl, -, hlc⟩ := had (hr.1.trans htag)
              exact .same hR1 (same _ _ _ hxx hlc) hx1
            · cases he
          · cases he
        · cases he
      · rename_i hemp
        have hne : 0 < xs'.length := by
          rcases Nat.eq_zero_or_pos xs'.length with q | q
          · exact absurd (by simpa using List.length_eq_zero_iff.1 q) hemp
          · exact q
        split at he
        · cases he
        · rename_i hok
          have hok : cellsOk (xs'.flatMap cellsV) = true := by simpa using hok
          have h1c := cellsOk_oneCell k1 hok
          have hvl : vals.length = xs.length * i.size := by rw [k1.length, flat_length u1, l1]
          -- a new row out of an empty slice
          have fresh : ∀ base, ρ a = .slice base 0 0 → xs'.length * (i.bytes + 1) ≤ 1099511627776 → Did C fid G1 H1 w low1 ((execOp ρ o).run C.P w) (.sref H1.length i.size 0 xs'.length xs'.length) (H1 ++ [.row i.size xs' false]) low1 := by
            intro base hs hb
            have hold : (Builtin.firstCells i.size 0 (.slice base 0 0)).run C.P w.drew = .ok ([] : List Value).toArray w.drew := by
              cases base <;> simp [Builtin.firstCells, loadCells, loadCellsFrom]
            obtain ⟨newCap, hcap, hrr⟩ := append_grows (P := C.P) (t := t) (u := u) (ty := o.type) hd hu hi hz (hfirst w.drew rfl) hold (by omega) (by rw [Nat.zero_add, ← l1]; exact hb)
            rw [Nat.zero_add, ← l1] at hrr hcap
            refine Did.newRow hR1 (cap := newCap) (e := e) hpos hne u1 (vals := vals) (rest := (Builtin.zeroCells zv.cells (newCap - xs'.length)).toList) ?_ k1 ?_ hcap (by rw [hrun, hs, ← l1, hrr]; rfl)
            · simp
            · simp only [Array.size_append, List.size_toArray, List.length_nil, Nat.zero_add, zeroCells_size, hvl, hzs, ← l1, ← Nat.add_mul]
              rw [Nat.add_sub_cancel' hcap]; exact Nat.le_refl _
          split at he
          · rename_i e1
            split at he
            · rename_i hb
              simp only [Option.some.injEq, Prod.mk.injEq] at he
              obtain ⟨rfl, rfl, rfl⟩ := he
              rw [e1] at hx1
              exact fresh _ hx1.nil0Inv hb
            · cases he
          · rename_i e1
            split at he
            · rename_i hb
              simp only [Option.some.injEq, Prod.mk.injEq] at he
              obtain ⟨rfl, rfl, rfl⟩ := he
              rw [e1] at hx1
              obtain ⟨ad, hxx⟩ := hx1.empInv
              exact fresh _ hxx hb
            · cases he
          · rename_i l es' off len tag e1
            rw [e1] at hx1
            split at he
            · rename_i es'' ds hl
              split at he
              · rename_i hcond
                obtain ⟨rfl, rfl, htag, rfl, rfl, hb⟩ := hcond
                simp only [Option.some.injEq, Prod.mk.injEq] at he
                obtain ⟨rfl, rfl, rfl⟩ := he
                obtain ⟨h0, ad, nn, cap, hbb, hle0, had, hxx⟩ := hx1.srefInv
                obtain ⟨ob, hob, hr⟩ := hR1.obj l h0 hbb
                rw [hl] at hob; cases hob
                obtain ⟨htg, hdpos, hfz, hes, huu, c, ee, ovals, rest, hc, hcs, hcv, hrel⟩ := hr
                obtain ⟨rfl, rfl, hcsz, hlc⟩ := had (htg.trans htag)
                rw [Nat.zero_mul] at hxx
                rw [Nat.zero_add] at hcsz
                have hdl : ds.length = nn := htag
                have hol : ovals.length = nn * i.size := by rw [hrel.length, flat_length huu, hdl]
                have hcl : c.size = ovals.length + rest.length := by rw [← Array.length_toList, hcv, List.length_append]
                have hu2 : ∀ d ∈ ds ++ xs', (cellsV d).length = i.size := fun d hd => by
                  rcases List.mem_append.1 hd with q | q
                  · exact huu d q
                  · exact u1 d q
                have hrl2 : VRels fid G1 w ((ds ++ xs').flatMap cellsV) (ovals ++ vals) := by rw [List.flatMap_append]; exact hrel.append k1
                by_cases hfit : nn + xs.length ≤ cap
                · -- in place
                  have hmul : (nn + xs.length) * i.size ≤ c.size := Nat.le_trans (Nat.mul_le_mul_right _ hfit) (by rw [← hcs]; exact hcsz)
                  rw [Nat.add_mul] at hmul
                  have hst := run_storeCells_at C.P h0.b (nn * i.size) ee vals 0 c w hc (by omega) h1c
                  have hval : (execOp ρ o).run C.P w = .ok (.value (.slice (some ⟨h0.b, 0, none⟩) (nn + xs.length) cap)) (w.setRow h0.b (c.toList.take (nn * i.size) ++ vals ++ c.toList.drop (nn * i.size + vals.length)).toArray) := by
                    rw [hrun, hxx, append_fits (P := C.P) hd hu hi (hfirst w rfl) hfit]
                    simp only [Addr.add_lit, Nat.zero_add]
                    simp only [Nat.add_zero] at hst
                    rw [hst]; rfl
                  have hx' : Ext G1 w ⟨upd G1.β l { h0 with tag := nn + xs'.length }, G1.I⟩ (w.setRow h0.b (c.toList.take (nn * i.size) ++ vals ++ c.toList.drop (nn * i.size + vals.length)).toArray) l H1.length :=
                    Ext.write hR1 hbb hfz rfl (by simp only; omega) (fun q => by omega) rfl (setRow_size _ _) (fun b hne => setRow_other hne _) rfl rfl
                  refine ⟨_, _, _, .inl hval, RelH.write hR1 hbb hfz (h' := { h0 with tag := nn + xs'.length }) rfl hfz (by simp only; omega) (fun q => by omega) rfl (setRow_size _ _) (fun b hne => setRow_other hne _) (.row i.size (ds ++ xs') false) ?_,
                    fun m hm => hx'.le (Nat.le_trans hm (Nat.min_le_right _ _)) (Nat.le_refl _), ?_, Nat.min_le_left _ _, by simp⟩
                  · refine ⟨by simp [hdl], by simp; omega, hfz, hes, hu2, _, ee, ovals ++ vals, rest.drop vals.length, setRow_heap w h0.b c _ ee _ hc, ?_, ?_, hrl2.ext hR1 hx'⟩
                    · show h0.csz = _
                      rw [hcs]
                      simp only [List.size_toArray, List.length_append, List.length_take, List.length_drop, Array.length_toList]
                      omega
                    · rw [List.toList_toArray, hcv, ← hol, List.take_left, List.drop_append, List.append_assoc, List.append_assoc]
                      congr 2
                      rw [List.drop_of_length_le (by omega), List.nil_append]
                      congr 1; omega
                  · rw [← l1]
                    exact .sref l i.size 0 _ _ { h0 with tag := nn + xs'.length } _ _ _ (upd_same _ _ _) (Nat.le_refl _) (fun _ => ⟨by simp, rfl, by rw [Nat.zero_add]; exact hcsz, by omega⟩)
                · -- into a new block
                  have hold : (Builtin.firstCells i.size nn (.slice (some ⟨h0.b, 0, none⟩) nn cap)).run C.P w.drew = .ok ovals.toArray w.drew :=
                    firstCells_run (CellsAt.of_row (w := w.drew) hc hcv) hol
                  obtain ⟨newCap, hcap, hrr⟩ := append_grows (P := C.P) (t := t) (u := u) (ty := o.type) hd hu hi hz (hfirst w.drew rfl) hold (by omega) (by rw [← l1]; exact hb)
                  have hR2 : RelH C fid G1 H1 w.drew := hR1.sameHeap rfl
                  have hE : ∀ m n, Ext G1 w G1 w.drew m n := fun m n => Ext.sameHeap (w := w) (w' := w.drew) rfl rfl rfl m n
                  obtain ⟨r1, r2⟩ := RelH.move hR2 hbb hfz (.cells (ovals.toArray ++ vals.toArray ++ Builtin.zeroCells zv.cells (newCap - (nn + xs.length))) e) (nn + xs'.length)
                    (ovals.toArray ++ vals.toArray ++ Builtin.zeroCells zv.cells (newCap - (nn + xs.length))).size (by omega) (by omega) (.row i.size (ds ++ xs') false)
                    ⟨by simp [hdl], by simp; omega, rfl, hes, hu2, _, e, ovals ++ vals, (Builtin.zeroCells zv.cells (newCap - (nn + xs.length))).toList, alloc_new _ _, rfl, by simp, VRels.mono (G := G1) (w := w.drew) (G' := ⟨upd G1.β l ⟨w.drew.heap.size, nn + xs'.length, (ovals.toArray ++ vals.toArray ++ Builtin.zeroCells zv.cells (newCap - (nn + xs.length))).size, false⟩, G1.I⟩) (by
                      intro x hh e0
                      by_cases hxl : x = l
                      · subst hxl; rw [hbb] at e0; cases e0
                        exact ⟨_, upd_same _ _ _, by simp only; omega, fun q => by omega, fun q => by simp only at q; omega, fun q => by rw [hfz] at q; cases q⟩
                      · exact ⟨hh, by simp only [upd_other hxl]; exact e0, Nat.le_refl _, id, fun _ => ⟨rfl, rfl⟩, fun _ => rfl⟩) (fun b hi' => ⟨hi', alloc_old (w := w.drew) (hR2.imm b hi').1⟩) (hrl2.ext hR1 (hE 0 0))⟩
                  refine ⟨_, _, _, .inl (by rw [hrun, hxx, hrr]; rfl), r1, fun m hm => (hE m H1.length).trans (r2.le (Nat.le_trans hm (Nat.min_le_right _ _)) (Nat.le_refl _)), ?_, Nat.min_le_left _ _, by simp⟩
                  rw [← l1]
                  refine .sref l i.size 0 _ _ ⟨w.drew.heap.size, nn + xs'.length, _, false⟩ _ _ _ (upd_same _ _ _) (Nat.le_refl _) (fun _ => ⟨by simp, rfl, ?_, by omega⟩)
                  simp only [Array.size_append, List.size_toArray, zeroCells_size, hvl, hol, hzs, ← Nat.add_mul, Nat.zero_add]
                  have e9 : nn + xs.length + (newCap - (nn + xs'.length)) = newCap := by omega
                  rw [e9]; exact Nat.le_refl _
              · cases he
            · cases he
          · cases he
    · cases he
  · cases he

end Go.Abs
