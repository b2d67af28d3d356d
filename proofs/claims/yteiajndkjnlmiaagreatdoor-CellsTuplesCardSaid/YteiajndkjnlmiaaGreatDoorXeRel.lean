/- How abstract values and heaps stand to the real memory. 'β': where an abstract object lies; 'I': the blocks that are never written again. -/
import Derived.Test.YteiajndkjnlmiaaGreatDoorXeComp
import Derived.Laws.World
set_option linter.unusedVariables false
set_option linter.unusedSimpArgs false
namespace Go.Abs
open Go

structure Home where
  b : Nat
  tag : Nat
  csz : Nat
  fz : Bool

structure Gh where
  β : Nat → Option Home
  I : Nat → Prop

def CellsAt (w : World) (b o : Nat) (vals : List Value) : Prop :=
  ∀ (j : Nat) (x : Value), vals[j]? = some x → w.cell? ⟨b, o + j, none⟩ = some x

mutual
inductive PRel (w : World) (I : Nat → Prop) : V → Value → Prop
  | bool (b : Bool) : PRel w I (.bool b) (.bool b)
  | int (k : IntKind) (n : Int) : PRel w I (.int k n) (.int k n)
  | str (s : List UInt8) : PRel w I (.str s) (.string ⟨⟨s⟩⟩)
  | nil0 : PRel w I .nil0 (.slice none 0 0)
  | emp (a : Addr) : PRel w I .emp (.slice (some a) 0 0)
  | list0 (es : Nat) (a : Addr) (cap : Nat) : PRel w I (.list es []) (.slice (some a) 0 cap)
  | list (es : Nat) (ds : List V) (b o cap : Nat) (vals : List Value) (hI : I b) (hc : CellsAt w b o vals) (hu : ∀ d ∈ ds, (cellsV d).length = es)
      (hr : PRels w I (ds.flatMap cellsV) vals) (hl : ds.length ≤ cap) : PRel w I (.list es ds) (.slice (some ⟨b, o, none⟩) ds.length cap)
  | nilp : PRel w I .nilp (.pointer none)
  | nilm : PRel w I .nilm (.map none)
  | nilf : PRel w I .nilf .nilFunc
  | nili : PRel w I .nili .nilIface
  | agg (vs : List V) (vals : List Value) (hr : PRels w I vs vals) : PRel w I (.agg vs) (.agg ⟨vals⟩)
  | tup (vs : List V) (vals : List Value) (hr : PRels w I vs vals) : PRel w I (.tup vs) (.tuple ⟨vals⟩)
  | iface (t : Nat) (v : V) (x : Value) (hr : PRel w I v x) : PRel w I (.iface t v) (.iface t x)
inductive PRels (w : World) (I : Nat → Prop) : List V → List Value → Prop
  | nil : PRels w I [] []
  | cons (v : V) (x : Value) (vs : List V) (xs : List Value) (h : PRel w I v x) (hs : PRels w I vs xs) : PRels w I (v :: vs) (x :: xs)
end

section
variable (fid : Nat → Nat)
mutual
inductive VRel (G : Gh) (w : World) : V → Value → Prop
  | p (v : V) (x : Value) (h : PRel w G.I v x) : VRel G w v x
  | ptr (l o : Nat) (h : Home) (hb : G.β l = some h) (ht : h.tag = 0) : VRel G w (.ptr l o) (.pointer (some ⟨h.b, o, none⟩))
  | eptr (l es i f tag : Nat) (h : Home) (a : Addr) (hb : G.β l = some h) (hle : tag ≤ h.tag) (ha : h.tag = tag → a = ⟨h.b, i * es + f, none⟩) :
      VRel G w (.eptr l es i f tag) (.pointer (some a))
  | pin (vs : List V) (f b o : Nat) (vals : List Value) (hI : G.I b) (hc : CellsAt w b o vals) (hr : PRels w G.I vs vals) : VRel G w (.pin vs f) (.pointer (some ⟨b, o + f, none⟩))
  | sref (l es off len tag : Nat) (h : Home) (a : Addr) (n cap : Nat) (hb : G.β l = some h) (hle : tag ≤ h.tag)
      (ha : h.tag = tag → a = ⟨h.b, off * es, none⟩ ∧ n = len ∧ (off + cap) * es ≤ h.csz ∧ len ≤ cap) : VRel G w (.sref l es off len tag) (.slice (some a) n cap)
  | map (l : Nat) (h : Home) (hb : G.β l = some h) (ht : h.tag = 0) : VRel G w (.map l) (.map (some h.b))
  | fn (i : Nat) (fs cs : List V) (xs ys : List Value) (hf : VRels G w fs xs) (hc : VRels G w cs ys) : VRel G w (.fn i fs cs) (.func (.func (fid i)) ⟨xs⟩ ⟨ys⟩)
  | yield (l : Nat) (h : Home) (hb : G.β l = some h) (ht : h.tag = 0) : VRel G w (.yield l) (.func (.yield h.b) #[] #[])
  | agg (vs : List V) (vals : List Value) (hr : VRels G w vs vals) : VRel G w (.agg vs) (.agg ⟨vals⟩)
  | tup (vs : List V) (vals : List Value) (hr : VRels G w vs vals) : VRel G w (.tup vs) (.tuple ⟨vals⟩)
  | iface (t : Nat) (v : V) (x : Value) (hr : VRel G w v x) : VRel G w (.iface t v) (.iface t x)
  | undef (x : Value) : VRel G w .undef x
inductive VRels (G : Gh) (w : World) : List V → List Value → Prop
  | nil : VRels G w [] []
  | cons (v : V) (x : Value) (vs : List V) (xs : List Value) (h : VRel G w v x) (hs : VRels G w vs xs) : VRels G w (v :: vs) (x :: xs)
end
end

variable {fid : Nat → Nat} {w w' : World} {G G' : Gh} {I I' : Nat → Prop}

theorem cell_of_block {b : Nat} (h : w'.heap[b]? = w.heap[b]?) (o : Nat) : w'.cell? ⟨b, o, none⟩ = w.cell? ⟨b, o, none⟩ := by
  simp [World.cell?, h]

theorem CellsAt.keep {b o : Nat} {vals : List Value} (h : CellsAt w b o vals) (hb : w'.heap[b]? = w.heap[b]?) : CellsAt w' b o vals :=
  fun j x hx => by rw [cell_of_block hb]; exact h j x hx

mutual
theorem PRel.mono (hI : ∀ b, I b → I' b ∧ w'.heap[b]? = w.heap[b]?) : ∀ {v : V} {x : Value}, PRel w I v x → PRel w' I' v x
  | _, _, .bool b => .bool b
  | _, _, .int k n => .int k n
  | _, _, .str s => .str s
  | _, _, .nil0 => .nil0
  | _, _, .emp a => .emp a
  | _, _, .list0 es a cap => .list0 es a cap
  | _, _, .list es ds b o cap vals h hc hu hr hl => .list es ds b o cap vals (hI b h).1 (hc.keep (hI b h).2) hu (PRels.mono hI hr) hl
  | _, _, .nilp => .nilp
  | _, _, .nilm => .nilm
  | _, _, .nilf => .nilf
  | _, _, .nili => .nili
  | _, _, .agg vs vals hr => .agg vs vals (PRels.mono hI hr)
  | _, _, .tup vs vals hr => .tup vs vals (PRels.mono hI hr)
  | _, _, .iface t v x hr => .iface t v x (PRel.mono hI hr)
theorem PRels.mono (hI : ∀ b, I b → I' b ∧ w'.heap[b]? = w.heap[b]?) : ∀ {vs : List V} {xs : List Value}, PRels w I vs xs → PRels w' I' vs xs
  | _, _, .nil => .nil
  | _, _, .cons v x vs xs h hs => .cons v x vs xs (PRel.mono hI h) (PRels.mono hI hs)
end

/-- The homes of β stand in β', moved at most where the tag has grown. -/
def HomesLe (β β' : Nat → Option Home) : Prop :=
  ∀ l h, β l = some h → ∃ h', β' l = some h' ∧ h.tag ≤ h'.tag ∧ (h.tag = 0 → h'.tag = 0) ∧ (h'.tag = h.tag → h'.b = h.b ∧ h'.csz = h.csz) ∧ (h.fz = true → h' = h)

theorem HomesLe.refl (β : Nat → Option Home) : HomesLe β β := fun _ h hb => ⟨h, hb, Nat.le_refl _, id, fun _ => ⟨rfl, rfl⟩, fun _ => rfl⟩

theorem HomesLe.trans {a b c : Nat → Option Home} (h : HomesLe a b) (k : HomesLe b c) : HomesLe a c := by
  intro l h₀ hb
  obtain ⟨h₁, e₁, t₁, z₁, m₁, f₁⟩ := h l h₀ hb
  obtain ⟨h₂, e₂, t₂, z₂, m₂, f₂⟩ := k l h₁ e₁
  refine ⟨h₂, e₂, Nat.le_trans t₁ t₂, fun z => z₂ (z₁ z), fun ht => ?_, fun f => ?_⟩
  · have e : h₁.tag = h₀.tag := by omega
    have e' : h₂.tag = h₁.tag := by omega
    exact ⟨(m₂ e').1.trans (m₁ e).1, (m₂ e').2.trans (m₁ e).2⟩
  · have := f₁ f; subst this; exact f₂ f

mutual
theorem VRel.mono (hH : HomesLe G.β G'.β) (hI : ∀ b, G.I b → G'.I b ∧ w'.heap[b]? = w.heap[b]?) : ∀ {v : V} {x : Value}, VRel fid G w v x → VRel fid G' w' v x
  | _, _, .p v x h => .p v x (PRel.mono hI h)
  | _, _, .ptr l o h hb ht => by
    obtain ⟨h', e, -, z, m, -⟩ := hH l h hb
    have := (m ((z ht).trans ht.symm)).1
    rw [← this]; exact .ptr l o h' e (z ht)
  | _, _, .eptr l es i f tag h a hb hle ha => by
    obtain ⟨h', e, t, z, m, -⟩ := hH l h hb
    refine .eptr l es i f tag h' a e (Nat.le_trans hle t) (fun hx => ?_)
    have ht : h'.tag = h.tag := by omega
    rw [(m ht).1]; exact ha (by omega)
  | _, _, .pin vs f b o vals h hc hr => .pin vs f b o vals (hI b h).1 (hc.keep (hI b h).2) (PRels.mono hI hr)
  | _, _, .sref l es off len tag h a n cap hb hle ha => by
    obtain ⟨h', e, t, z, m, -⟩ := hH l h hb
    refine .sref l es off len tag h' a n cap e (Nat.le_trans hle t) (fun hx => ?_)
    have ht : h'.tag = h.tag := by omega
    rw [(m ht).1, (m ht).2]; exact ha (by omega)
  | _, _, .map l h hb ht => by
    obtain ⟨h', e, -, z, m, -⟩ := hH l h hb
    have := (m ((z ht).trans ht.symm)).1
    rw [← this]; exact .map l h' e (z ht)
  | _, _, .fn i fs cs xs ys hf hc => .fn i fs cs xs ys (VRels.mono hH hI hf) (VRels.mono hH hI hc)
  | _, _, .yield l h hb ht => by
    obtain ⟨h', e, -, z, m, -⟩ := hH l h hb
    have := (m ((z ht).trans ht.symm)).1
    rw [← this]; exact .yield l h' e (z ht)
  | _, _, .agg vs vals hr => .agg vs vals (VRels.mono hH hI hr)
  | _, _, .tup vs vals hr => .tup vs vals (VRels.mono hH hI hr)
  | _, _, .iface t v x hr => .iface t v x (VRel.mono hH hI hr)
  | _, _, .undef x => .undef x
theorem VRels.mono (hH : HomesLe G.β G'.β) (hI : ∀ b, G.I b → G'.I b ∧ w'.heap[b]? = w.heap[b]?) : ∀ {vs : List V} {xs : List Value}, VRels fid G w vs xs → VRels fid G' w' vs xs
  | _, _, .nil => .nil
  | _, _, .cons v x vs xs h hs => .cons v x vs xs (VRel.mono hH hI h) (VRels.mono hH hI hs)
end

mutual
/-- What is old lives on under fewer homes. -/
theorem VRel.restrict {n : Nat} (hH : ∀ l h, l < n → G.β l = some h → ∃ h', G'.β l = some h' ∧ h' = h) (hI : ∀ b, G.I b → G'.I b ∧ w'.heap[b]? = w.heap[b]?) :
    ∀ {v : V} {x : Value}, VRel fid G w v x → old n v = true ∨ (isP v = true) → VRel fid G' w' v x
  | _, _, .p v x h, _ => .p v x (PRel.mono hI h)
  | _, _, .ptr l o h hb ht, ho => by
    obtain ⟨h', e, rfl⟩ := hH l h (by simpa [old, isP] using ho) hb
    exact .ptr l o _ e ht
  | _, _, .eptr l es i f tag h a hb hle ha, ho => by
    obtain ⟨h', e, rfl⟩ := hH l h (by simpa [old, isP] using ho) hb
    exact .eptr l es i f tag _ a e hle ha
  | _, _, .pin vs f b o vals h hc hr, _ => .pin vs f b o vals (hI b h).1 (hc.keep (hI b h).2) (PRels.mono hI hr)
  | _, _, .sref l es off len tag h a n cap hb hle ha, ho => by
    obtain ⟨h', e, rfl⟩ := hH l h (by simpa [old, isP] using ho) hb
    exact .sref l es off len tag _ a n cap e hle ha
  | _, _, .map l h hb ht, ho => by
    obtain ⟨h', e, rfl⟩ := hH l h (by simpa [old, isP] using ho) hb
    exact .map l _ e ht
  | _, _, .fn i fs cs xs ys hf hc, ho => by
    simp only [old, isP, Bool.and_eq_true, Bool.false_eq_true, or_false] at ho
    exact .fn i fs cs xs ys (VRels.restrict hH hI hf (.inl ho.1)) (VRels.restrict hH hI hc (.inl ho.2))
  | _, _, .yield l h hb ht, ho => by
    obtain ⟨h', e, rfl⟩ := hH l h (by simpa [old, isP] using ho) hb
    exact .yield l _ e ht
  | _, _, .agg vs vals hr, ho => .agg vs vals (VRels.restrict hH hI hr (by simpa [old, isP] using ho))
  | _, _, .tup vs vals hr, ho => .tup vs vals (VRels.restrict hH hI hr (by simpa [old, isP] using ho))
  | _, _, .iface t v x hr, ho => .iface t v x (VRel.restrict hH hI hr (by simpa [old, isP] using ho))
  | _, _, .undef x, _ => .undef x
theorem VRels.restrict {n : Nat} (hH : ∀ l h, l < n → G.β l = some h → ∃ h', G'.β l = some h' ∧ h' = h) (hI : ∀ b, G.I b → G'.I b ∧ w'.heap[b]? = w.heap[b]?) :
    ∀ {vs : List V} {xs : List Value}, VRels fid G w vs xs → olds n vs = true ∨ isPs vs = true → VRels fid G' w' vs xs
  | _, _, .nil, _ => .nil
  | _, _, .cons v x vs xs h hs, ho => by
    have h1 : old n v = true ∨ isP v = true := by rcases ho with ho | ho <;> simp_all [olds, isPs]
    have h2 : olds n vs = true ∨ isPs vs = true := by rcases ho with ho | ho <;> simp_all [olds, isPs]
    exact .cons v x vs xs (VRel.restrict hH hI h h1) (VRels.restrict hH hI hs h2)
end

mutual
theorem VRel.toP : ∀ {v : V} {x : Value}, VRel fid G w v x → isP v = true → PRel w G.I v x
  | _, _, .p v x h, _ => h
  | _, _, .agg vs vals hr, ho => .agg vs vals (VRels.toP hr (by simpa [isP] using ho))
  | _, _, .tup vs vals hr, ho => .tup vs vals (VRels.toP hr (by simpa [isP] using ho))
  | _, _, .iface t v x hr, ho => .iface t v x (VRel.toP hr (by simpa [isP] using ho))
  | _, _, .ptr .., ho | _, _, .eptr .., ho | _, _, .pin .., ho | _, _, .sref .., ho | _, _, .map .., ho | _, _, .fn .., ho | _, _, .yield .., ho | _, _, .undef .., ho => by simp [isP] at ho
theorem VRels.toP : ∀ {vs : List V} {xs : List Value}, VRels fid G w vs xs → isPs vs = true → PRels w G.I vs xs
  | _, _, .nil, _ => .nil
  | _, _, .cons v x vs xs h hs, ho => by
    simp only [isPs, Bool.and_eq_true] at ho
    exact .cons v x vs xs (VRel.toP h ho.1) (VRels.toP hs ho.2)
end

theorem PRels.toV : ∀ {vs : List V} {xs : List Value}, PRels w G.I vs xs → VRels fid G w vs xs
  | _, _, .nil => .nil
  | _, _, .cons v x vs xs h hs => .cons v x vs xs (.p v x h) (PRels.toV hs)

mutual
/-- What is flat stands under whatever homes, in whatever world. -/
theorem PRel.flat : ∀ {v : V} {x : Value}, PRel w I v x → Abs.flat v = true → PRel w' I' v x
  | _, _, .bool b, _ => .bool b
  | _, _, .int k n, _ => .int k n
  | _, _, .str s, _ => .str s
  | _, _, .nil0, _ => .nil0
  | _, _, .emp a, _ => .emp a
  | _, _, .nilp, _ => .nilp
  | _, _, .nilm, _ => .nilm
  | _, _, .nilf, _ => .nilf
  | _, _, .nili, _ => .nili
  | _, _, .agg vs vals hr, h => .agg vs vals (PRels.flat hr (by simpa [Abs.flat] using h))
  | _, _, .tup vs vals hr, h => .tup vs vals (PRels.flat hr (by simpa [Abs.flat] using h))
  | _, _, .list0 .., h | _, _, .list .., h | _, _, .iface .., h => by simp [Abs.flat] at h
theorem PRels.flat : ∀ {vs : List V} {xs : List Value}, PRels w I vs xs → flats vs = true → PRels w' I' vs xs
  | _, _, .nil, _ => .nil
  | _, _, .cons v x vs xs h hs, ho => by
    simp only [flats, Bool.and_eq_true] at ho
    exact .cons v x vs xs (PRel.flat h ho.1) (PRels.flat hs ho.2)
end
mutual
theorem flat_isP : ∀ {v : V}, Abs.flat v = true → isP v = true
  | .bool _, _ | .int _ _, _ | .str _, _ | .nil0, _ | .emp, _ | .nilp, _ | .nilm, _ | .nilf, _ | .nili, _ => rfl
  | .agg vs, h => by simp only [isP]; exact flats_isPs (by simpa [Abs.flat] using h)
  | .tup vs, h => by simp only [isP]; exact flats_isPs (by simpa [Abs.flat] using h)
  | .list .., h | .ptr .., h | .eptr .., h | .pin .., h | .sref .., h | .map .., h | .fn .., h | .yield .., h | .iface .., h | .undef, h => by simp [Abs.flat] at h
theorem flats_isPs : ∀ {vs : List V}, flats vs = true → isPs vs = true
  | [], _ => rfl
  | v :: vs, h => by
    simp only [flats, Bool.and_eq_true] at h
    simp only [isPs, Bool.and_eq_true]
    exact ⟨flat_isP h.1, flats_isPs h.2⟩
end
theorem VRel.flat {v : V} {x : Value} (h : VRel fid G w v x) (hf : Abs.flat v = true) : VRel fid G' w' v x := .p _ _ ((h.toP (flat_isP hf)).flat hf)

/-! ### lists -/

theorem VRels.length : ∀ {vs : List V} {xs : List Value}, VRels fid G w vs xs → xs.length = vs.length
  | _, _, .nil => rfl
  | _, _, .cons _ _ _ _ _ hs => by simp [VRels.length hs]

theorem VRels.get : ∀ {vs : List V} {xs : List Value}, VRels fid G w vs xs → ∀ {i : Nat} {v : V}, vs[i]? = some v → ∃ x, xs[i]? = some x ∧ VRel fid G w v x
  | _, _, .nil, i, v, h => by simp at h
  | _, _, .cons v x vs xs h hs, 0, u, e => by simp at e; subst e; exact ⟨x, by simp, h⟩
  | _, _, .cons v x vs xs h hs, i + 1, u, e => by simpa using VRels.get hs (by simpa using e)

theorem VRels.append : ∀ {vs us : List V} {xs ys : List Value}, VRels fid G w vs xs → VRels fid G w us ys → VRels fid G w (vs ++ us) (xs ++ ys)
  | _, _, _, _, .nil, k => k
  | _, _, _, _, .cons v x vs xs h hs, k => .cons v x _ _ h (VRels.append hs k)

theorem VRels.split : ∀ {vs us : List V} {zs : List Value}, VRels fid G w (vs ++ us) zs → ∃ xs ys, zs = xs ++ ys ∧ VRels fid G w vs xs ∧ VRels fid G w us ys
  | [], us, zs, h => ⟨[], zs, rfl, .nil, h⟩
  | v :: vs, us, _, .cons _ x _ xs h hs => by
    obtain ⟨as, bs, rfl, h1, h2⟩ := VRels.split (vs := vs) hs
    exact ⟨x :: as, bs, rfl, .cons v x vs as h h1, h2⟩

theorem VRels.set : ∀ {vs : List V} {xs : List Value}, VRels fid G w vs xs → ∀ (i : Nat) {v : V} {x : Value}, VRel fid G w v x → VRels fid G w (vs.set i v) (xs.set i x)
  | _, _, .nil, _, _, _, _ => .nil
  | _, _, .cons v x vs xs h hs, 0, u, y, k => .cons u y vs xs k hs
  | _, _, .cons v x vs xs h hs, i + 1, u, y, k => .cons v x _ _ h (VRels.set hs i k)

theorem VRels.drop : ∀ {vs : List V} {xs : List Value}, VRels fid G w vs xs → ∀ (n : Nat), VRels fid G w (vs.drop n) (xs.drop n)
  | _, _, h, 0 => by simpa using h
  | _, _, .nil, n + 1 => .nil
  | _, _, .cons v x vs xs h hs, n + 1 => by simpa using VRels.drop hs n

theorem VRels.take : ∀ {vs : List V} {xs : List Value}, VRels fid G w vs xs → ∀ (n : Nat), VRels fid G w (vs.take n) (xs.take n)
  | _, _, h, 0 => by simpa using VRels.nil
  | _, _, .nil, n + 1 => .nil
  | _, _, .cons v x vs xs h hs, n + 1 => .cons v x _ _ h (VRels.take hs n)

theorem VRels.mem_of_forall {vs : List V} {xs : List Value} (hl : xs.length = vs.length) (h : ∀ (i : Nat) v x, vs[i]? = some v → xs[i]? = some x → VRel fid G w v x) : VRels fid G w vs xs := by
  induction vs generalizing xs with
  | nil => cases xs with
    | nil => exact .nil
    | cons => simp at hl
  | cons v vs ih => cases xs with
    | nil => simp at hl
    | cons x xs => exact .cons v x vs xs (h 0 v x rfl rfl) (ih (by simpa using hl) (fun i v x a b => h (i + 1) v x (by simpa using a) (by simpa using b)))

theorem PRels.drop : ∀ {vs : List V} {xs : List Value}, PRels w I vs xs → ∀ (n : Nat), PRels w I (vs.drop n) (xs.drop n)
  | _, _, h, 0 => by simpa using h
  | _, _, .nil, n + 1 => .nil
  | _, _, .cons _ _ _ _ _ hs, n + 1 => by simpa using PRels.drop hs n

theorem PRels.take : ∀ {vs : List V} {xs : List Value}, PRels w I vs xs → ∀ (n : Nat), PRels w I (vs.take n) (xs.take n)
  | _, _, _, 0 => by simpa using PRels.nil
  | _, _, .nil, n + 1 => .nil
  | _, _, .cons v x _ _ h hs, n + 1 => .cons v x _ _ h (PRels.take hs n)

theorem PRels.length {vs : List V} {xs : List Value} (h : PRels w I vs xs) : xs.length = vs.length := VRels.length (fid := id) (G := ⟨fun _ => none, I⟩) (PRels.toV h)

/-! ### objects -/

def pendRel : X → Option Code → Prop
  | .normal, none => True
  | .exit id, some (.exit id') => id' = id
  | .ret, some .ret => True
  | _, _ => False

def ORel (C : Ctx) (fid : Nat → Nat) (G : Gh) (w : World) (h : Home) : AObj → Prop
  | .cells vs => h.tag = 0 ∧ h.fz = false ∧ ∃ c e, w.heap[h.b]? = some (.cells c e (0, 0)) ∧ VRels fid G w vs c.toList
  | .row es ds fz => h.tag = ds.length ∧ 0 < ds.length ∧ h.fz = fz ∧ 0 < es ∧ (∀ d ∈ ds, (cellsV d).length = es) ∧
      ∃ c e vals rest, w.heap[h.b]? = some (.cells c e (0, 0)) ∧ h.csz = c.size ∧ c.toList = vals ++ rest ∧ VRels fid G w (ds.flatMap cellsV) vals
  | .map ents => h.tag = 0 ∧ h.fz = false ∧ ∃ es clk, w.heap[h.b]? = some (.map es clk) ∧
      VRels fid G w (ents.map (·.1)) (es.toList.map (·.key)) ∧ VRels fid G w (ents.map (·.2)) (es.toList.map (·.val))
  | .loop st pend env params assign body => h.tag = 0 ∧ h.fz = false ∧ ∃ L vars, w.heap[h.b]? = some (.loop L) ∧ L.state = st ∧ pendRel pend L.pending ∧
      L.params.toList = params ∧ (∀ t ∈ params, t ∈ vars ∧ t < L.tmps.size) ∧
      C.code vars L.tmps.size L.assign = some assign ∧ C.code vars L.tmps.size L.body = some body ∧ ∀ t ∈ vars, VRel fid G w (lookupE env t) (L.tmps.getD t undef)
  | .gone => h.tag = 0 ∧ h.fz = false

structure RelH (C : Ctx) (fid : Nat → Nat) (G : Gh) (H : Heap) (w : World) : Prop where
  obj : ∀ l h, G.β l = some h → ∃ o, H[l]? = some o ∧ ORel C fid G w h o
  inj : ∀ l l' h h', G.β l = some h → G.β l' = some h' → h.b = h'.b → l = l'
  blk : ∀ l h, G.β l = some h → h.b < w.heap.size
  imm : ∀ b, G.I b → b < w.heap.size ∧ ∀ l h, G.β l = some h → h.b = b → h.fz = true
  fzI : ∀ l h, G.β l = some h → h.fz = true → G.I h.b
  glob : ∀ b o, C.glob b = some o → G.I b ∧ w.heap[b]? = some o

/-- From one state to a later one; objects older than m are as they were; new objects have numbers from n on. -/
structure Ext (G : Gh) (w : World) (G' : Gh) (w' : World) (m n : Nat) : Prop where
  size : w.heap.size ≤ w'.heap.size
  os : w'.os = w.os
  tape : w'.tape = w.tape
  output : w'.output = w.output
  keep : ∀ b, b < w.heap.size → (∀ l h, G.β l = some h → h.b = b → h.fz = true ∨ l < m) → w'.heap[b]? = w.heap[b]?
  homes : HomesLe G.β G'.β
  newH : ∀ l h', G'.β l = some h' → (∃ h, G.β l = some h ∧ (h.b = h'.b ∨ w.heap.size ≤ h'.b)) ∨ (n ≤ l ∧ w.heap.size ≤ h'.b)
  imm : ∀ b, G.I b → G'.I b
  newI : ∀ b, G'.I b → G.I b ∨ w.heap.size ≤ b ∨ ∃ l h, G.β l = some h ∧ h.b = b

theorem Ext.newH' {m n : Nat} (h : Ext G w G' w' m n) (l : Nat) (h' : Home) (e : G'.β l = some h') : (∃ h, G.β l = some h ∧ h.b = h'.b) ∨ w.heap.size ≤ h'.b := by
  rcases h.newH l h' e with ⟨h0, e0, q | q⟩ | ⟨_, q⟩
  · exact .inl ⟨h0, e0, q⟩
  · exact .inr q
  · exact .inr q

theorem Ext.refl (G : Gh) (w : World) (m n : Nat) : Ext G w G w m n :=
  ⟨Nat.le_refl _, rfl, rfl, rfl, fun _ _ _ => rfl, .refl _, fun _ h hb => .inl ⟨h, hb, .inl rfl⟩, fun _ h => h, fun _ h => .inl h⟩

theorem Ext.le {m m' n n' : Nat} (h : Ext G w G' w' m n) (hm : m' ≤ m) (hn : n' ≤ n) : Ext G w G' w' m' n' :=
  { h with keep := fun b hb k => h.keep b hb fun l x e1 e2 => (k l x e1 e2).imp id fun q => Nat.lt_of_lt_of_le q hm
           newH := fun l h' e => (h.newH l h' e).imp id fun q => ⟨Nat.le_trans hn q.1, q.2⟩ }

theorem Ext.trans {G'' : Gh} {w'' : World} {m n : Nat} (h : Ext G w G' w' m n) (k : Ext G' w' G'' w'' m n) : Ext G w G'' w'' m n where
  size := Nat.le_trans h.size k.size
  os := k.os.trans h.os
  tape := k.tape.trans h.tape
  output := k.output.trans h.output
  keep b hb hk := by
    rw [k.keep b (Nat.lt_of_lt_of_le hb h.size) ?_, h.keep b hb hk]
    intro l h1 e1 e2
    rcases h.newH' l h1 e1 with ⟨h0, e0, eb⟩ | hn
    · rcases hk l h0 e0 (eb.trans e2) with hf | hl
      · obtain ⟨h', e', -, -, -, f'⟩ := h.homes l h0 e0
        rw [e1] at e'; cases e'
        rw [f' hf]; exact .inl hf
      · exact .inr hl
    · omega
  homes := h.homes.trans k.homes
  newH l h2 e := by
    have hs := h.size
    rcases k.newH l h2 e with ⟨h1, e1, eb⟩ | ⟨hn, hb⟩
    · rcases h.newH l h1 e1 with ⟨h0, e0, eb0⟩ | ⟨hn, hb⟩
      · refine .inl ⟨h0, e0, ?_⟩
        rcases eb with eb | eb <;> rcases eb0 with eb0 | eb0
        · exact .inl (eb0.trans eb)
        · exact .inr (by omega)
        · exact .inr (by omega)
        · exact .inr (by omega)
      · exact .inr ⟨hn, by rcases eb with eb | eb <;> omega⟩
    · exact .inr ⟨hn, by omega⟩
  imm b hb := k.imm b (h.imm b hb)
  newI b hb := by
    rcases k.newI b hb with h1 | h1 | ⟨l, h1, e1, eb⟩
    · exact h.newI b h1
    · exact .inr (.inl (Nat.le_trans h.size h1))
    · rcases h.newH' l h1 e1 with ⟨h0, e0, eb0⟩ | hn
      · exact .inr (.inr ⟨l, h0, e0, eb0.trans eb⟩)
      · exact .inr (.inl (by omega))

theorem RelH.keepI {C : Ctx} {H : Heap} {m n : Nat} (hR : RelH C fid G H w) (h : Ext G w G' w' m n) : ∀ b, G.I b → G'.I b ∧ w'.heap[b]? = w.heap[b]? := fun b hb =>
  ⟨h.imm b hb, h.keep b (hR.imm b hb).1 fun l x e1 e2 => .inl ((hR.imm b hb).2 l x e1 e2)⟩

theorem VRel.ext {C : Ctx} {H : Heap} {m n : Nat} (hR : RelH C fid G H w) (h : Ext G w G' w' m n) {v : V} {x : Value} (k : VRel fid G w v x) : VRel fid G' w' v x :=
  k.mono h.homes (hR.keepI h)
theorem VRels.ext {C : Ctx} {H : Heap} {m n : Nat} (hR : RelH C fid G H w) (h : Ext G w G' w' m n) {v : List V} {x : List Value} (k : VRels fid G w v x) : VRels fid G' w' v x :=
  k.mono h.homes (hR.keepI h)

/-- An object whose block, and whose home, are as they were. -/
theorem ORel.mono {C : Ctx} (hH : HomesLe G.β G'.β) (hI : ∀ b, G.I b → G'.I b ∧ w'.heap[b]? = w.heap[b]?) {h : Home} (hb : w'.heap[h.b]? = w.heap[h.b]?) : ∀ {o : AObj}, ORel C fid G w h o → ORel C fid G' w' h o
  | .cells vs, ⟨a, b, c, e, hc, hr⟩ => ⟨a, b, c, e, by rw [hb]; exact hc, hr.mono hH hI⟩
  | .row es ds fz, ⟨a, b, c, d, u, cc, e, vals, rest, hc, hs, hl, hr⟩ => ⟨a, b, c, d, u, cc, e, vals, rest, by rw [hb]; exact hc, hs, hl, hr.mono hH hI⟩
  | .map ents, ⟨a, b, es, clk, hc, hk, hv⟩ => ⟨a, b, es, clk, by rw [hb]; exact hc, hk.mono hH hI, hv.mono hH hI⟩
  | .loop .., ⟨a, b, L, vars, hc, hs, hp, hps, hin, ha, hbd, he⟩ => ⟨a, b, L, vars, by rw [hb]; exact hc, hs, hp, hps, hin, ha, hbd, fun t ht => (he t ht).mono hH hI⟩
  | .gone, h => h

end Go.Abs
