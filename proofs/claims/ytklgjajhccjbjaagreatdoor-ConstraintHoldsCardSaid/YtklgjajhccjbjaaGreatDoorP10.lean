/- What a reading of plain data (numbers, words, slices and structs of them) is for the executor. -/
import Derived.Test.YtklgjajhccjbjaaGreatDoorP06
import Derived.ChangeBears
import Derived.ChangeSlices
import Derived.SizedLaws
import Derived.Test.YtklgjajhccjbjaaGreatDoorP07
set_option linter.unusedVariables false
set_option linter.unusedSimpArgs false
namespace Go.Abs
open Go Go.ChangeShapes

/-- An element of these cells. -/
def mkV : List V → V
  | [x] => x
  | vs => .agg vs

theorem cellsV_one {x : V} (h : cellOk x = true) : cellsV x = [x] := by cases x <;> simp_all [cellOk, cellsV]
theorem cellsV_mk {l : List V} (h : cellsOk l = true) : cellsV (mkV l) = l := by
  match l, h with
  | [], _ => rfl
  | [x], h => simp only [cellsOk, Bool.and_true] at h; exact cellsV_one h
  | _ :: _ :: _, _ => rfl

/-- The reading d of type t as cells. -/
inductive RD {H : Type} (P : Program) : TypeId → DataW H → List V → Prop
  | bool (t : TypeId) (b : Bool) (ht : P.underlying t = some .bool) : RD P t (.lit (.bool b)) [.bool b]
  | int (t : TypeId) (k : IntKind) (n : Int) (ht : P.underlying t = some (.int k)) (hw : (Lit.int k n).wf = true) : RD P t (.lit (.int k n)) [.int k n]
  | str (t : TypeId) (s : List UInt8) (ht : P.underlying t = some .string) : RD P t (.lit (.string s)) [.str s]
  | nil (t e : TypeId) (ht : P.underlying t = some (.slice e)) : RD P t .nil [.nil0]
  | slice (t e : TypeId) (elems spare : List (DataW H)) (ls : List (List V)) (ht : P.underlying t = some (.slice e)) (hl : ls.length = elems.length)
      (h : ∀ (i : Nat) d l, elems[i]? = some d → ls[i]? = some l → RD P e d l) : RD P t (.slice elems spare) [.list (P.cellsOf e) (ls.map mkV)]
  | struct (t : TypeId) (fs : Array Field) (parts : List (DataW H)) (ls : List (List V)) (ht : P.underlying t = some (.struct fs)) (hp : parts.length = fs.size) (hl : ls.length = fs.size)
      (h : ∀ (i : Nat) (f : Field) d l, fs[i]? = some f → parts[i]? = some d → ls[i]? = some l → RD P f.type d l) : RD P t (.agg parts) ls.flatten

/-- Plain data: what this text reads. -/
def frag (P : Program) : Nat → TypeId → Bool
  | 0, _ => false
  | n + 1, t => match P.underlying t with
    | some .bool | some (.int _) | some .string => P.cellsOf t == 1
    | some (.slice e) => P.cellsOf t == 1 && decide (0 < P.cellsOf e) && frag P n e
    | some (.struct fs) => fs.toList.all fun f => frag P n f.type
    | _ => false

theorem prels_append {w : World} {I : Nat → Prop} : ∀ {vs : List V} {xs : List Value} {us : List V} {ys : List Value}, PRels w I vs xs → PRels w I us ys → PRels w I (vs ++ us) (xs ++ ys)
  | _, _, _, _, .nil, h => h
  | _, _, _, _, .cons v x vs xs h hs, k => .cons v x _ _ h (prels_append hs k)
theorem cellsOk_append {a b : List V} : cellsOk (a ++ b) = (cellsOk a && cellsOk b) := by
  induction a with
  | nil => simp [cellsOk]
  | cons x a ih => simp [cellsOk, ih, Bool.and_assoc]

theorem list_choose {α : Type} {p : Nat → α → Prop} : ∀ n, (∀ i, i < n → ∃ a, p i a) → ∃ l : List α, l.length = n ∧ ∀ i a, l[i]? = some a → p i a
  | 0, _ => ⟨[], rfl, fun i a h => by simp at h⟩
  | n + 1, h => by
    obtain ⟨l, hl, hp⟩ := list_choose n (fun i hi => h i (by omega))
    obtain ⟨a, ha⟩ := h n (by omega)
    refine ⟨l ++ [a], by simp [hl], fun i b hb => ?_⟩
    rcases Nat.lt_or_ge i n with hi | hi
    · rw [List.getElem?_append_left (by omega)] at hb; exact hp i b hb
    · rw [List.getElem?_append_right (by omega)] at hb
      have : i - l.length = 0 := by
        rcases Nat.eq_zero_or_pos (i - l.length) with h0 | h0
        · exact h0
        · rw [List.getElem?_eq_none (by simp; omega)] at hb; cases hb
      rw [this] at hb
      cases hb
      have : i = n := by omega
      rw [this]; exact ha

theorem flat_get {α : Type} {c : Nat} : ∀ {ls : List (List α)} {j : Nat} {x : α}, (∀ l ∈ ls, l.length = c) → ls.flatten[j]? = some x → ∃ i r l, ls[i]? = some l ∧ l[r]? = some x ∧ j = i * c + r ∧ r < c
  | [], j, x, _, h => by simp at h
  | l :: ls, j, x, hc, h => by
    have hl := hc l (by simp)
    rw [List.flatten_cons] at h
    rcases Nat.lt_or_ge j c with hj | hj
    · rw [List.getElem?_append_left (by omega)] at h
      exact ⟨0, j, l, rfl, h, by omega, hj⟩
    · rw [List.getElem?_append_right (by omega)] at h
      obtain ⟨i, r, l', h1, h2, h3, h4⟩ := flat_get (fun m hm => hc m (by simp [hm])) h
      exact ⟨i + 1, r, l', by simpa using h1, h2, by rw [Nat.add_mul]; omega, h4⟩

section
variable {H : Type} {enc : TypeId × Value → H} {P : Program} {W : World} {held : Bool}

def IB (W : World) : Nat → Prop := fun b => b < W.heap.size

/-- What is shown of one reading. -/
def Reads (P : Program) (W : World) (t : TypeId) (cs : List Value) (d : DataW H) : Prop :=
  ∃ vs, RD P t d vs ∧ PRels W (IB W) vs cs ∧ cellsOk vs = true ∧ vs.length = P.cellsOf t ∧ cs.length = P.cellsOf t

theorem cell_block {a : Addr} {v : Value} (h : W.cell? a = some v) : a.spot = none ∧ a.block < W.heap.size := by
  unfold World.cell? at h
  split at h
  · rename_i c e f hh
    split at h
    · cases h
    · rename_i hs
      refine ⟨by simpa using hs, ?_⟩
      rcases Nat.lt_or_ge a.block W.heap.size with q | q
      · exact q
      · rw [Array.getElem?_eq_none q] at hh; cases hh
  · cases h

theorem reads_fields (n : Nat) (IH : ∀ fuel t cs (x : DataW H × List MemPlace), t < P.types.size → frag P n t = true → DataW.trod enc P W 0 (fun _ => true) held fuel t cs = some x → Reads P W t cs x.1) (m : Nat) (cs : List Value) :
    ∀ (fl : List Field) (xs : List (DataW H × List MemPlace)) (off : Nat), (∀ (j : Nat) (f : Field), fl[j]? = some f → f.offset = off + ((fl.take j).map fun f => P.cellsOf f.type).sum) → xs.length = fl.length → (∀ f ∈ fl, f.type < P.types.size ∧ frag P n f.type = true) →
      (∀ (i : Nat) (f : Field), fl[i]? = some f → DataW.trod enc P W 0 (fun _ => true) held m f.type ((cs.drop f.offset).take (P.cellsOf f.type)) = xs[i]?) →
      ∃ ls : List (List V), ls.length = fl.length ∧ (∀ (i : Nat) (f : Field) (y : DataW H × List MemPlace) (l : List V), fl[i]? = some f → xs[i]? = some y → ls[i]? = some l → RD P f.type y.1 l) ∧ PRels W (IB W) ls.flatten ((cs.drop off).take (fl.map fun f => P.cellsOf f.type).sum) ∧ cellsOk ls.flatten = true ∧
        ls.flatten.length = (fl.map fun f => P.cellsOf f.type).sum
  | [], xs, off, _, hl, _, _ => ⟨[], rfl, fun i f y l h => by simp at h, by simp; exact .nil, rfl, rfl⟩
  | f :: fl, xs, off, hoff, hl, hf, hx => by
    match xs, hl with
    | y :: xs, hl =>
      have h0 := hx 0 f rfl
      have ho := hoff 0 f rfl
      simp only [List.take_zero, List.map_nil, List.sum_nil, Nat.add_zero] at ho
      rw [ho] at h0
      simp only [List.getElem?_cons_zero] at h0
      obtain ⟨vs, r1, r2, r3, r4, r5⟩ := IH m f.type _ y (hf f (by simp)).1 (hf f (by simp)).2 h0
      obtain ⟨ls, q1, q2, q3, q4, q5⟩ := reads_fields n IH m cs fl xs (off + P.cellsOf f.type) (fun j g hg => by
          have := hoff (j + 1) g (by simpa using hg)
          simp only [List.take_succ_cons, List.map_cons, List.sum_cons] at this
          omega) (by simpa using hl) (fun g hg => hf g (by simp [hg])) (fun i g hg => by simpa using hx (i + 1) g (by simpa using hg))
      refine ⟨vs :: ls, by simp [q1], fun i g z l hg hz hll => ?_, ?_, ?_, ?_⟩
      · cases i with
        | zero =>
          simp only [List.getElem?_cons_zero, Option.some.injEq] at hg hz hll
          subst hg; subst hz; subst hll; exact r1
        | succ i =>
          simp only [List.getElem?_cons_succ] at hg hz hll
          exact q2 i g z l hg hz hll
      · rw [List.flatten_cons, List.map_cons, List.sum_cons, List.take_add, List.drop_drop]
        exact prels_append r2 q3
      · rw [List.flatten_cons, cellsOk_append, r3, q4]; rfl
      · rw [List.flatten_cons, List.length_append, r4, q5, List.map_cons, List.sum_cons]

theorem reads (hlo : laidOutB P = true) : ∀ (n fuel : Nat) (t : TypeId) (cs : List Value) (x : DataW H × List MemPlace), t < P.types.size → frag P n t = true → DataW.trod enc P W 0 (fun _ => true) held fuel t cs = some x → Reads P W t cs x.1
  | 0, _, _, _, _, _, hf, _ => by simp [frag] at hf
  | n + 1, fuel, t, cs, x, hts, hf, h => by
    unfold frag at hf
    split at hf
    · rename_i ht
      have hc : P.cellsOf t = 1 := by simpa using hf
      obtain ⟨b, rfl, hx⟩ : ∃ b, cs = [.bool b] ∧ x = (.lit (.bool b), []) := by
        cases fuel with
        | zero => simp [DataW.trod] at h
        | succ m =>
          unfold DataW.trod at h
          rw [ht] at h
          split at h <;> simp_all
      subst hx
      exact ⟨_, .bool t _ ht, .cons _ _ _ _ (.bool _) .nil, rfl, by rw [hc]; rfl, by rw [hc]; rfl⟩
    · rename_i k ht
      have hc : P.cellsOf t = 1 := by simpa using hf
      obtain ⟨m, rfl, rfl, hw⟩ := DataW.trod_int ht h
      exact ⟨_, .int t k m ht hw, .cons _ _ _ _ (.int k m) .nil, rfl, by rw [hc]; rfl, by rw [hc]; rfl⟩
    · rename_i ht
      have hc : P.cellsOf t = 1 := by simpa using hf
      obtain ⟨s, rfl, rfl, hw⟩ := DataW.trod_string ht h
      obtain ⟨⟨s⟩⟩ := s
      exact ⟨_, .str t _ ht, .cons _ _ _ _ (.str s) .nil, rfl, by rw [hc]; rfl, by rw [hc]; rfl⟩
    · rename_i e ht
      simp only [Bool.and_eq_true, beq_iff_eq, decide_eq_true_eq] at hf
      obtain ⟨⟨hc, hce⟩, hfe⟩ := hf
      have hes := kid_slice hlo hts ht
      rcases DataW.trod_slice ht h with ⟨rfl, rfl⟩ | ⟨a, len, cap, elems, rest, m, -, rfl, rfl, -, hlc, -, hlen, hel, -, -⟩
      · exact ⟨_, .nil t e ht, .cons _ _ _ _ .nil0 .nil, rfl, by rw [hc]; rfl, by rw [hc]; rfl⟩
      · have each : ∀ i, i < len → ∃ q : List Value × List V, (∃ y, elems[i]? = some y ∧ W.cells? 0 (a.add (i * P.cellsOf e)) (P.cellsOf e) = some q.1 ∧ RD P e y.1 q.2 ∧ PRels W (IB W) q.2 q.1 ∧ cellsOk q.2 = true ∧ q.2.length = P.cellsOf e ∧ q.1.length = P.cellsOf e) := fun i hi => by
          have hb := hel i hi
          obtain ⟨y, hy⟩ : ∃ y, elems[i]? = some y := ⟨_, List.getElem?_eq_getElem (by omega)⟩
          rw [hy, Option.bind_eq_some_iff] at hb
          obtain ⟨cs', h1, h2⟩ := hb
          obtain ⟨vs, r1, r2, r3, r4, r5⟩ := reads hlo n m e cs' y hes hfe h2
          exact ⟨(cs', vs), y, hy, h1, r1, r2, r3, r4, r5⟩
        obtain ⟨qs, hql, hq⟩ := list_choose len each
        have hmem : ∀ q ∈ qs, ∃ i, qs[i]? = some q := fun q h => List.getElem?_of_mem h
        refine ⟨[.list (P.cellsOf e) ((qs.map (·.2)).map mkV)], .slice t e (elems.map (·.1)) (rest.map (·.1)) (qs.map (·.2)) ht (by simp [hql, hlen]) (fun i d l hd hl => ?_), ?_, rfl, by rw [hc]; rfl, by rw [hc]; rfl⟩
        · rw [List.getElem?_map] at hd hl
          cases hqi : qs[i]? with
          | none => rw [hqi] at hl; cases hl
          | some q =>
            obtain ⟨y, hy, -, h2, -⟩ := hq i q hqi
            rw [hqi] at hl
            rw [hy] at hd
            cases hd; cases hl
            exact h2
        · refine .cons _ _ _ _ ?_ .nil
          cases hlen0 : len with
          | zero =>
            have : qs = [] := List.eq_nil_of_length_eq_zero (by omega)
            subst this
            exact .list0 _ a cap
          | succ len' =>
            obtain ⟨q0, hq0⟩ : ∃ q, qs[0]? = some q := ⟨_, List.getElem?_eq_getElem (by omega)⟩
            obtain ⟨y0, -, hc0, -, -, -, -, hl0⟩ := hq 0 q0 hq0
            have hcell0 := (World.cells?_some hc0).2.2 0 hce
            obtain ⟨v0, hv0⟩ : ∃ v, q0.1[0]? = some v := ⟨_, List.getElem?_eq_getElem (by omega)⟩
            rw [hv0] at hcell0
            obtain ⟨ab, ao, asp⟩ := a
            have hsp : asp = none := by
              have := (cell_block hcell0).1
              simpa [Addr.add] using this
            subst hsp
            have hbl : ab < W.heap.size := by
              have := (cell_block hcell0).2
              rwa [block_add, block_add] at this
            have hlm : ((qs.map (·.2)).map mkV).length = len := by simp [hql]
            have key : PRel W (IB W) (.list (P.cellsOf e) ((qs.map (·.2)).map mkV)) (.slice (some ⟨ab, ao, none⟩) ((qs.map (·.2)).map mkV).length cap) := by
              refine .list _ _ ab ao cap (qs.map (·.1)).flatten hbl (fun j x hj => ?_) (fun d hd => ?_) ?_ (by rw [hlm]; exact hlc)
              · obtain ⟨i, r, l, h1, h2, rfl, h4⟩ := flat_get (c := P.cellsOf e) (fun l hl => by
                  obtain ⟨q, hqm, rfl⟩ := List.mem_map.1 hl
                  obtain ⟨i, hi⟩ := hmem q hqm
                  obtain ⟨y, -, -, -, -, -, -, h⟩ := hq i q hi
                  exact h) hj
                rw [List.getElem?_map] at h1
                cases hqi : qs[i]? with
                | none => rw [hqi] at h1; cases h1
                | some q =>
                  rw [hqi] at h1; cases h1
                  obtain ⟨y, -, hcs, -⟩ := hq i q hqi
                  have := (World.cells?_some hcs).2.2 r h4
                  rw [h2] at this
                  have e1 : ((⟨ab, ao, none⟩ : Addr).add (i * P.cellsOf e)).add r = ⟨ab, ao + (i * P.cellsOf e + r), none⟩ := by
                    simp only [Addr.add]
                    split <;> split <;> simp_all <;> omega
                  rw [e1] at this; exact this
              · obtain ⟨l, hl, rfl⟩ := List.mem_map.1 hd
                obtain ⟨q, hqm, rfl⟩ := List.mem_map.1 hl
                obtain ⟨i, hi⟩ := hmem q hqm
                obtain ⟨y, -, -, -, -, h5, h6, -⟩ := hq i q hi
                rw [cellsV_mk h5]; exact h6
              · have hall : ∀ q ∈ qs, PRels W (IB W) q.2 q.1 ∧ cellsOk q.2 = true := fun q hqm => by
                  obtain ⟨i, hi⟩ := hmem q hqm
                  obtain ⟨y, -, -, -, h4, h5, -⟩ := hq i q hi
                  exact ⟨h4, h5⟩
                have : ∀ qs : List (List Value × List V), (∀ q ∈ qs, PRels W (IB W) q.2 q.1 ∧ cellsOk q.2 = true) → PRels W (IB W) (((qs.map (·.2)).map mkV).flatMap cellsV) (qs.map (·.1)).flatten := by
                  intro qs
                  induction qs with
                  | nil => intro _; exact .nil
                  | cons q qs ih =>
                    intro h
                    have h0 := h q (by simp)
                    simp only [List.map_cons, List.flatMap_cons, List.flatten_cons]
                    rw [cellsV_mk h0.2]
                    exact prels_append h0.1 (ih fun p hp => h p (by simp [hp]))
                exact this qs hall
            rw [hlm, hlen0] at key
            exact key
    · rename_i fs ht
      obtain ⟨k1, k2, k3⟩ := kid_struct hlo hts ht
      obtain ⟨xs, m, -, rfl, hcl, hxl, hx⟩ := DataW.trod_struct ht h
      rw [List.all_eq_true] at hf
      obtain ⟨ls, q1, q2, q3, q4, q5⟩ := reads_fields n (fun fuel t cs x a b c => reads hlo n fuel t cs x a b c) m cs fs.toList xs 0 (fun j f hj => by rw [k3 j f hj]; omega) (by simpa using hxl) (fun f hfm => ⟨k1 f hfm, hf f hfm⟩) (fun i f hi => hx i f (by simpa using hi))
      refine ⟨ls.flatten, .struct t fs (xs.map (·.1)) ls ht (by simpa using hxl) (by simpa using q1) (fun i f d l hfi hd hl => ?_), ?_, q4, by rw [q5, k2], hcl⟩
      · rw [List.getElem?_map] at hd
        cases hxi : xs[i]? with
        | none => rw [hxi] at hd; cases hd
        | some y =>
          rw [hxi] at hd; cases hd
          exact q2 i f y l (by simpa using hfi) hxi hl
      · rw [List.drop_zero, List.take_of_length_le (by rw [hcl, k2]; exact Nat.le_refl _)] at q3
        exact q3
    · cases hf

theorem rd_int {t : TypeId} {k : IntKind} {d : DataW H} {vs : List V} (ht : P.underlying t = some (.int k)) (h : RD P t d vs) : ∃ n, d = .lit (.int k n) ∧ vs = [.int k n] ∧ (Lit.int k n).wf = true := by
  cases h <;> rename_i ht' <;> rw [ht] at * <;> try (first | (cases ht'; done) | contradiction)
  · rename_i hw; cases ht'; exact ⟨_, rfl, rfl, hw⟩
theorem rd_str {t : TypeId} {d : DataW H} {vs : List V} (ht : P.underlying t = some .string) (h : RD P t d vs) : ∃ s, d = .lit (.string s) ∧ vs = [.str s] := by
  cases h with
  | str _ s ht' => exact ⟨s, rfl, rfl⟩
  | bool _ _ ht' | int _ _ _ ht' _ | nil _ _ ht' | slice _ _ _ _ _ ht' _ _ | struct _ _ _ _ ht' _ _ _ => rw [ht] at ht'; cases ht'
theorem rd_bool {t : TypeId} {d : DataW H} {vs : List V} (ht : P.underlying t = some .bool) (h : RD P t d vs) : ∃ b, d = .lit (.bool b) ∧ vs = [.bool b] := by
  cases h with
  | bool _ b ht' => exact ⟨b, rfl, rfl⟩
  | str _ _ ht' | int _ _ _ ht' _ | nil _ _ ht' | slice _ _ _ _ _ ht' _ _ | struct _ _ _ _ ht' _ _ _ => rw [ht] at ht'; cases ht'
theorem rd_slice {t e : TypeId} {d : DataW H} {vs : List V} (ht : P.underlying t = some (.slice e)) (h : RD P t d vs) :
    (d = .nil ∧ vs = [.nil0]) ∨ ∃ (elems spare : List (DataW H)) (ls : List (List V)), d = .slice elems spare ∧ vs = [.list (P.cellsOf e) (ls.map mkV)] ∧ ls.length = elems.length ∧ ∀ (i : Nat) d l, elems[i]? = some d → ls[i]? = some l → RD P e d l := by
  cases h with
  | nil _ _ ht' => exact .inl ⟨rfl, rfl⟩
  | slice _ e' elems spare ls ht' hl h => rw [ht] at ht'; cases ht'; exact .inr ⟨elems, spare, ls, rfl, rfl, hl, h⟩
  | bool _ _ ht' | str _ _ ht' | int _ _ _ ht' _ | struct _ _ _ _ ht' _ _ _ => rw [ht] at ht'; cases ht'
theorem rd_struct {t : TypeId} {fs : Array Field} {d : DataW H} {vs : List V} (ht : P.underlying t = some (.struct fs)) (h : RD P t d vs) :
    ∃ (parts : List (DataW H)) (ls : List (List V)), d = .agg parts ∧ vs = ls.flatten ∧ parts.length = fs.size ∧ ls.length = fs.size ∧ ∀ (i : Nat) (f : Field) d l, fs[i]? = some f → parts[i]? = some d → ls[i]? = some l → RD P f.type d l := by
  cases h with
  | struct _ fs' parts ls ht' hp hl h => rw [ht] at ht'; cases ht'; exact ⟨parts, ls, rfl, rfl, hp, hl, h⟩
  | bool _ _ ht' | str _ _ ht' | int _ _ _ ht' _ | nil _ _ ht' | slice _ _ _ _ _ ht' _ _ => rw [ht] at ht'; cases ht'

/-! ### sizes -/
theorem weights_all {e : TypeId} {elems : List (DataW H)} {i : Nat} {d : DataW H} (h : elems[i]? = some d) : ∀ n ∈ d.weights P e, n ∈ DataW.weightsAll P e elems := by
  induction elems generalizing i with
  | nil => simp at h
  | cons x r ih =>
    intro n hn
    simp only [DataW.weightsAll, List.mem_append]
    cases i with
    | zero => simp only [List.getElem?_cons_zero, Option.some.injEq] at h; subst h; exact .inl hn
    | succ i => exact .inr (ih (by simpa using h) n hn)
theorem weights_elem {t e : TypeId} {elems spare : List (DataW H)} (ht : P.underlying t = some (.slice e)) {i : Nat} {d : DataW H} (h : elems[i]? = some d) : ∀ n ∈ d.weights P e, n ∈ (DataW.slice elems spare).weights P t := fun n hn => by
  simp only [DataW.weights, ht, List.mem_cons, List.mem_append]
  exact .inr (.inl (weights_all h n hn))
theorem weights_part {t : TypeId} {fs : Array Field} {parts : List (DataW H)} (ht : P.underlying t = some (.struct fs)) {i : Nat} {f : Field} {d : DataW H} (hf : fs[i]? = some f) (h : parts[i]? = some d) : ∀ n ∈ d.weights P f.type, n ∈ (DataW.agg parts).weights P t := fun n hn => by
  simp only [DataW.weights, ht]
  exact DataW.weights_mem_each (t := f.type) (by simpa using ⟨f, by simpa using hf, rfl⟩) h n hn
theorem weights_len {t e : TypeId} {elems spare : List (DataW H)} (ht : P.underlying t = some (.slice e)) : (elems.length + spare.length) * P.bytesOf e ∈ (DataW.slice elems spare).weights P t := by simp [DataW.weights, ht]

/-- An argument that is one cell. -/
theorem read_arg (hlo : laidOutB P = true) {n : Nat} {t : TypeId} {v : Value} {d : DataW H} {ps : List MemPlace} (hts : t < P.types.size) (hf : frag P n t = true) (hone : v.cells.toList = [v])
    (hd : DataW.Trod enc P W 0 (fun _ => true) held t v d ps) : ∃ sv, RD P t d [sv] ∧ PRel W (IB W) sv v := by
  obtain ⟨fuel, hd⟩ := hd
  obtain ⟨vs, r1, r2, r3, r4, r5⟩ := reads hlo n fuel t _ _ hts hf hd
  rw [hone] at r2
  cases r2 with
  | cons sv x vs xs h hs => cases hs; exact ⟨sv, r1, h⟩
end
end Go.Abs
/- A function that was reckoned from the empty heap, for all arguments of a kind, is a word of the table. -/
namespace Go.Abs
open Go
variable {C : Ctx} {fid : Nat → Nat} {w w' : World} {G G' : Gh} {H H' : Heap}

theorem ext_of_execL (hmix : C.P.follows .mixedOrders = true) (hC : CtxOk C fid) {tab : Nat → Option Fun} (hT : TabOk C fid tab) {i : Nat} {f : AFunc} (hi : tab i = some (.code f)) {spec : List V → Option V}
    (hs : ∀ args v, spec args = some v → isP v = true ∧ ∃ H' l, callL tab (.fn i [] []) args [] = some (v, H', l)) : ExtOk C fid i spec := by
  intro G H w args v xs hR hxs hsp
  obtain ⟨hp, H', l, he⟩ := hs args v hsp
  obtain ⟨n, hn⟩ := callL_iff.1 he
  have hc := calls_of_exec hmix hC hT hi hn hR.apart (PRels.toV hxs)
  obtain ⟨fn, hfn, hfun⟩ := hT.code i f hi
  obtain ⟨c, hb, -, -, hname, -⟩ := func_inv hfun
  rw [callFunc_run hfn hb hname]
  exact Calls.mono hc fun e w' => fun ⟨x, e1, e2⟩ => ⟨x, e1, e2.beside hR hp⟩

theorem callL_word {tab : Nat → Option Fun} {i : Nat} {spec : List V → Option V} (h : tab i = some (.ext spec)) {args : List V} (hp : isPs args = true) {v : V} (hv : spec args = some v) (H : Heap) : callL tab (.fn i [] []) args H = some (v, H, H.length) := by
  rw [callL_fn, h]
  simp [hp, hv]

theorem over_same (tab : Nat → Option Fun) (k : Nat) (spec : List V → Option V) : over tab k spec k = some (.ext spec) := by
  unfold over
  rw [Nat.beq_refl]; rfl
theorem over_other (tab : Nat → Option Fun) {k i : Nat} (spec : List V → Option V) (h : i ≠ k) : over tab k spec i = tab i := by
  unfold over
  have : Nat.beq i k = false := by
    cases hb : Nat.beq i k with
    | false => rfl
    | true => exact absurd (Nat.eq_of_beq_eq_true hb) h
  rw [this]; rfl
end Go.Abs
