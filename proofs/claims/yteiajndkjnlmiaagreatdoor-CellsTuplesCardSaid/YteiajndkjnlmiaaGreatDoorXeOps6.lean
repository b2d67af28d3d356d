/- Aggregates and slices that are made. -/
import Derived.Test.YteiajndkjnlmiaaGreatDoorXeOps5
import Derived.Laws.Append
set_option linter.unusedVariables false
set_option linter.unusedSimpArgs false
namespace Go.Abs
open Go
variable {C : Ctx} {fid : Nat → Nat} {w w' : World} {G G' : Gh} {H : Heap}
variable {vars : List Nat} {ev : Opd → V} {ρ : Operand → Value} {low low' : Nat} {v : V} {H' : Heap} {pos : String} {aop : AOp} {o : Oper}

theorem foldl_set (off : Nat) : ∀ (zs : List Value) (k : Nat) (cells : Array Value), off + k + zs.length ≤ cells.size →
    ((zs.zipIdx k).foldl (fun (cs : Array Value) (p : Value × Nat) => cs.setIfInBounds (off + p.2) p.1) cells).toList = cells.toList.take (off + k) ++ zs ++ cells.toList.drop (off + k + zs.length)
  | [], k, cells, _ => by simp
  | z :: zs, k, cells, h => by
    simp only [List.length_cons] at h
    rw [List.zipIdx_cons, List.foldl_cons, foldl_set off zs (k + 1) _ (by simp; omega)]
    have e := list_seg_step cells.toList (off + k) z zs (by simp; omega)
    rw [List.length_cons]
    simpa [Array.toList_setIfInBounds, Nat.add_assoc] using e

theorem fill_cons {place : Nat → Option (Nat × Nat)} {cells : Array Value} {i : Nat} {x : Value} {rest : List (Nat × Value)} {off n : Nat} (hp : place i = some (off, n)) (hs : x.cells.size = n) (hfit : off + n ≤ cells.size) :
    ∃ cells', Instr.fill place cells ((i, x) :: rest) = Instr.fill place cells' rest ∧ cells'.toList = cells.toList.take off ++ x.cells.toList ++ cells.toList.drop (off + x.cells.toList.length) := by
  refine ⟨x.cells.zipIdx.foldl (fun cs (c, j) => cs.setIfInBounds (off + j) c) cells, ?_, ?_⟩
  · have : ¬ (x.cells.size ≠ n || decide (off + x.cells.size > cells.size)) = true := by simp; omega
    simp only [Instr.fill, hp]
    rw [if_neg (by simpa using this)]
  · rw [← Array.foldl_toList, Array.toList_zipIdx]
    have := foldl_set off x.cells.toList 0 cells (by simp; omega)
    simpa using this

theorem fillA_sound {place : Nat → Option (Nat × Nat)} : ∀ {ps : List (Nat × Value)} {as : List (Nat × Nat × V)} {cs cs' : List V} {cells : Array Value}, ps.length = as.length →
    (∀ (j : Nat) p a, ps[j]? = some p → as[j]? = some a → place p.1 = some (a.1, a.2.1) ∧ VRel fid G w a.2.2 p.2) → VRels fid G w cs cells.toList → fillA cs as = some cs' →
    ∃ cells', Instr.fill place cells ps = some cells' ∧ VRels fid G w cs' cells'.toList
  | [], [], cs, cs', cells, _, _, hv, h => by
    simp only [fillA, Option.some.injEq] at h; subst h
    exact ⟨cells, rfl, hv⟩
  | [], _ :: _, _, _, _, hl, _, _, _ => by simp at hl
  | _ :: _, [], _, _, _, hl, _, _, _ => by simp at hl
  | (i, x) :: ps, (off, n, u) :: as, cs, cs', cells, hl, hp, hv, h => by
    simp only [fillA] at h
    split at h
    · rename_i hc
      obtain ⟨hp1, hp2⟩ := hp 0 _ _ rfl rfl
      obtain ⟨r1, r2⟩ := cells_rel hp2 hc.2.2
      have hcl := hv.length
      have hxl := r1.length
      have hxs : x.cells.size = n := by rw [← Array.length_toList]; simp only at hxl; rw [hxl, hc.1]
      obtain ⟨cells1, e1, e2⟩ := fill_cons (rest := ps) hp1 hxs (by rw [← Array.length_toList, hcl]; exact hc.2.1)
      have hv1 : VRels fid G w (setCells cs off (cellsV u)) cells1.toList := by rw [e2]; exact setCells_rel off hv r1 (by rw [hc.1]; exact hc.2.1)
      obtain ⟨cells', e3, e4⟩ := fillA_sound (by simpa using hl) (fun j p a h1 h2 => hp (j + 1) p a (by simpa using h1) (by simpa using h2)) hv1 h
      exact ⟨cells', by rw [e1, e3], e4⟩
    · cases h

theorem setCells_full : ∀ (xs cs : List V), xs.length = cs.length → setCells cs 0 xs = xs := by
  have key : ∀ (xs a b : List V), xs.length = b.length → setCells (a ++ b) a.length xs = a ++ xs := by
    intro xs
    induction xs with
    | nil => intro a b h; cases b <;> simp_all [setCells]
    | cons x xs ih =>
      intro a b h
      cases b with
      | nil => simp at h
      | cons y b =>
        have := ih (a ++ [x]) b (by simpa using h)
        simp only [setCells]
        simpa using this
  intro xs cs h
  simpa using key xs [] cs h

theorem fillL_sound {es : Nat} : ∀ {ps : List (Nat × Value)} {as : List (Nat × V)} {ds ds' : List V} {cells : Array Value}, ps.length = as.length →
    (∀ (j : Nat) p a, ps[j]? = some p → as[j]? = some a → p.1 = a.1 ∧ VRel fid G w a.2 p.2) → (∀ d ∈ ds, (cellsV d).length = es) → VRels fid G w (ds.flatMap cellsV) cells.toList → fillL es ds as = some ds' →
    ∃ cells', Instr.fill (fun i => some (i * es, es)) cells ps = some cells' ∧ VRels fid G w (ds'.flatMap cellsV) cells'.toList ∧ (∀ d ∈ ds', (cellsV d).length = es) ∧ ds'.length = ds.length
  | [], [], ds, ds', cells, _, _, hu, hv, h => by
    simp only [fillL, Option.some.injEq] at h; subst h
    exact ⟨cells, rfl, hv, hu, rfl⟩
  | [], _ :: _, _, _, _, hl, _, _, _, _ => by simp at hl
  | _ :: _, [], _, _, _, hl, _, _, _, _ => by simp at hl
  | (i, x) :: ps, (i', u) :: as, ds, ds', cells, hl, hp, hu, hv, h => by
    simp only [fillL] at h
    split at h
    · rename_i hc
      obtain ⟨hp1, hp2⟩ := hp 0 _ _ rfl rfl
      simp only at hp1 hp2; subst hp1
      obtain ⟨r1, r2⟩ := cells_rel hp2 hc.2.2
      have hcl := hv.length
      have hfl := flat_length hu
      have hxl := r1.length
      have hxs : x.cells.size = es := by rw [← Array.length_toList, hxl, hc.1]
      have hi : i * es + es ≤ ds.length * es := by
        have : (i + 1) * es ≤ ds.length * es := Nat.mul_le_mul_right _ hc.2.1
        rw [Nat.succ_mul] at this; exact this
      obtain ⟨cells1, e1, e2⟩ := fill_cons (place := fun i => some (i * es, es)) (cells := cells) (rest := ps) (i := i) rfl hxs (by rw [← Array.length_toList, hcl]; omega)
      obtain ⟨d, hd⟩ : ∃ d, ds[i]? = some d := ⟨_, List.getElem?_eq_getElem hc.2.1⟩
      have hds := flat_set hu hd (d' := u) (f := 0) (xs := cellsV u) (by rw [hc.1]; omega) (setCells_full _ _ (by rw [hc.1, hu d (List.mem_of_getElem? hd)])).symm
      rw [Nat.add_zero] at hds
      have hv1 : VRels fid G w ((ds.set i u).flatMap cellsV) cells1.toList := by rw [e2, hds]; exact setCells_rel _ hv r1 (by rw [hc.1]; omega)
      obtain ⟨cells', e3, e4, e5, e6⟩ := fillL_sound (by simpa using hl) (fun j p a h1 h2 => hp (j + 1) p a (by simpa using h1) (by simpa using h2))
        (fun a ha => by rcases List.mem_or_eq_of_mem_set ha with q | rfl; exact hu a q; exact hc.1) hv1 h
      exact ⟨cells', by rw [e1, e3], e4, e5, by rw [e6]; simp⟩
    · cases h

theorem mapM_run {α β : Type} (f : α → Sem β) (g : α → β) : ∀ (l : List α), (∀ a ∈ l, ∀ w, (f a).run C.P w = .ok (g a) w) → (l.mapM f).run C.P w = .ok (l.map g) w
  | [], _ => by simp
  | a :: l, h => by
    rw [List.mapM_cons, Sem.run_bind, h a (by simp), Result.andThen_ok, Sem.run_bind, mapM_run f g l (fun b hb => h b (by simp [hb])), Result.andThen_ok, Sem.run_pure]; rfl

theorem arrMapM_run {α β : Type} (f : α → Sem β) (g : α → β) (l : Array α) (h : ∀ a ∈ l.toList, ∀ w, (f a).run C.P w = .ok (g a) w) : (l.mapM f).run C.P w = .ok (l.map g) w := by
  rw [Array.mapM_eq_mapM_toList, Sem.run_map, mapM_run f g _ h, Result.andThen_ok]
  congr 1
  apply Array.ext'
  simp

theorem zeroCells_run {t : TypeId} {z : List V} (hz : C.zeroCells t = some z) : ∃ zv, (∀ w, (zeroValue t).run C.P w = .ok zv w) ∧ (∀ (G : Gh) (w : World), VRels fid G w z zv.cells.toList) ∧ cellsOk z = true ∧
    ∃ i, C.P.info? t = some i ∧ i.zero = some zv := by
  unfold Ctx.zeroCells at hz
  split at hz
  · rename_i i hi
    split at hz
    · rename_i zv hzv
      split at hz
      · rename_i vs hvs
        split at hz
        · rename_i hok
          simp only [Option.some.injEq] at hz; subst hz
          refine ⟨zv, fun w => ?_, fun G w => PRels.toV (constVs_sound _ hvs), hok, i, hi, hzv⟩
          simp only [zeroValue, Sem.run_bind, run_typeInfo (P := C.P) w hi, Result.andThen_ok, hzv, Sem.run_pure]
        · cases hz
      · cases hz
    · cases hz
  · cases hz

theorem mapO_length {α β : Type} (f : α → Option β) : ∀ {l : List α} {r : List β}, mapO f l = some r → r.length = l.length
  | [], _, h => by simp only [mapO, Option.some.injEq] at h; subst h; rfl
  | a :: l, _, h => by
    simp only [mapO] at h
    split at h
    · split at h
      · rename_i bs hbs
        simp only [Option.some.injEq] at h; subst h
        simp [mapO_length f hbs]
      · cases h
    · cases h
theorem mapO_get {α β : Type} (f : α → Option β) : ∀ {l : List α} {r : List β}, mapO f l = some r → ∀ {j : Nat} {a : α} {b : β}, l[j]? = some a → r[j]? = some b → f a = some b
  | [], _, h, j, a, b, h1, _ => by simp at h1
  | a :: l, _, h, j, a', b', h1, h2 => by
    simp only [mapO] at h
    split at h
    · rename_i b hb
      split at h
      · rename_i bs hbs
        simp only [Option.some.injEq] at h; subst h
        cases j with
        | zero => simp at h1 h2; subst h1; subst h2; exact hb
        | succ j => exact mapO_get f hbs (by simpa using h1) (by simpa using h2)
      · cases h
    · cases h

theorem s_build (hR : RelH C fid G H w) (hρ : OpdRel C fid vars G w ev ρ) {t : TypeId} {parts : Array (Nat × Operand)} (ho : o.op = .build t parts) (hc : C.op0 vars pos o.op = some aop) (he : step ev H low aop = some (v, H', low')) :
    Did C fid G H w low ((execOp ρ o).run C.P w) v H' low' := by
  rw [ho] at hc
  have hrun : (execOp ρ o).run C.P w = ((Instr.build t (parts.map fun (i, x) => (i, ρ x))).run C.P w).andThen fun z w' => .ok (.value z) w' := by
    unfold execOp; rw [ho]; simp only [Sem.run_bind]; rfl
  -- the common part: 'ap' the parts of the simplified operation, 'place' the places
  have main : ∀ (z : List V) (ap : List (Nat × Nat × Opd)) (place : Nat → Option (Nat × Nat)), C.zeroCells t = some z → ap.length = parts.toList.length →
      (∀ (j : Nat) p a, parts.toList[j]? = some p → ap[j]? = some a → place p.1 = some (a.1, a.2.1) ∧ C.opd vars p.2 = some a.2.2) →
      (∀ (zv : Value) (w : World), (∀ w, (zeroValue t).run C.P w = .ok zv w) → ∀ cells, Instr.fill place zv.cells (parts.toList.map fun (i, x) => (i, ρ x)) = some cells →
        (Instr.build t (parts.map fun (i, x) => (i, ρ x))).run C.P w = .ok (.agg cells) w) →
      step ev H low (.build z ap) = some (v, H', low') → Did C fid G H w low ((execOp ρ o).run C.P w) v H' low' := by
    intro z ap place hz hlen hpl hb he
    obtain ⟨zv, hzr, hzrel, hok, -⟩ := zeroCells_run (fid := fid) hz
    simp only [step] at he
    split at he
    · rename_i vs H1 low1 hf
      obtain ⟨cs, hcs, he⟩ := Option.map_eq_some_iff.1 he
      simp only [Prod.mk.injEq] at he
      obtain ⟨rfl, rfl, rfl⟩ := he
      have hvals : VRels fid G w (ap.map fun p => ev p.2.2) (parts.toList.map fun p => ρ p.2) := by
        refine VRels.mem_of_forall (by simp [hlen]) (fun j a x h1 h2 => ?_)
        simp only [List.getElem?_map, Option.map_eq_some_iff] at h1 h2
        obtain ⟨a', ha', rfl⟩ := h1
        obtain ⟨p', hp', rfl⟩ := h2
        exact hρ _ _ (hpl j p' a' hp' ha').2
      obtain ⟨G1, f1, k1⟩ := freezeVs_sound hR hvals hf
      have hvl := k1.length
      have hvl' : vs.length = ap.length := by rw [← hvl]; simp [hlen]
      obtain ⟨cells, e1, e2⟩ := fillA_sound (fid := fid) (G := G1) (w := w) (place := place) (ps := parts.toList.map fun (i, x) => (i, ρ x)) (as := (ap.zip vs).map fun (p, v) => (p.1, p.2.1, v))
        (by simp [hlen, hvl']) (fun j p a h1 h2 => by
          simp only [List.getElem?_map, Option.map_eq_some_iff] at h1 h2
          obtain ⟨p', hp', rfl⟩ := h1
          obtain ⟨⟨a', v'⟩, ha', rfl⟩ := h2
          rw [List.getElem?_zip_eq_some] at ha'
          refine ⟨(hpl j p' a' hp' ha'.1).1, ?_⟩
          obtain ⟨y, hy, hrel⟩ := k1.get ha'.2
          simp only [List.getElem?_map, hp', Option.map_some, Option.some.injEq] at hy
          subst hy; exact hrel) (hzrel G1 w) hcs
      refine Did.afterFreeze f1 (Did.same f1.rel (x := .agg cells) ?_ (.agg _ cells.toList e2))
      rw [hrun, hb zv w hzr cells e1]; rfl
    · cases he
  simp only [Ctx.op0] at hc
  split at hc
  · rename_i fs z hd hz
    split at hc
    · cases hc
    · rename_i hall
      obtain ⟨ap, hap, rfl⟩ := Option.map_eq_some_iff.1 hc
      have hsz : ∀ f ∈ fs.toList, ∃ n, C.sizeOf f.type = some n := by
        intro f hf
        cases hq : C.sizeOf f.type with
        | some n => exact ⟨n, rfl⟩
        | none => exact absurd (List.any_eq_true.2 ⟨f, hf, by simp [hq]⟩) hall
      refine main z ap (fun i => (fs.map fun f => (f.offset, (C.sizeOf f.type).getD 0))[i]?) hz (mapO_length _ hap) ?_ ?_ he
      · intro j p a h1 h2
        have := mapO_get _ hap h1 h2
        split at this
        · rename_i f hf
          split at this
          · rename_i n x hn hx
            simp only [Option.some.injEq] at this; subst this
            refine ⟨?_, hx⟩
            simp only [Array.getElem?_map, hf, Option.map_some, hn, Option.getD_some]
          · cases this
        · cases this
      · intro zv w hzr cells hfill
        have hm := arrMapM_run (C := C) (w := w) (fun (f : Field) => (do pure (f.offset, ← Go.sizeOf f.type) : Sem (Nat × Nat))) (fun f => (f.offset, (C.sizeOf f.type).getD 0)) fs (fun f hf w => by
          obtain ⟨n, hn⟩ := hsz f hf
          simp only [Sem.run_bind, sizeOf_run (C := C) hn, Result.andThen_ok, Sem.run_pure, hn, Option.getD_some])
        have hpl : (parts.map fun (i, x) => (i, ρ x)).toList = parts.toList.map fun (i, x) => (i, ρ x) := by simp
        unfold Instr.build
        simp only [Sem.run_bind, hzr, run_underlying hd, Result.andThen_ok, hm, hpl, hfill, Sem.run_pure]
  · rename_i n e z hd hz
    split at hc
    · rename_i sz hs
      obtain ⟨ap, hap, rfl⟩ := Option.map_eq_some_iff.1 hc
      refine main z ap (fun i => some (i * sz, sz)) hz (mapO_length _ hap) ?_ ?_ he
      · intro j p a h1 h2
        have := mapO_get _ hap h1 h2
        split at this
        · rename_i x hx
          simp only [Option.some.injEq] at this; subst this
          exact ⟨rfl, hx⟩
        · cases this
      · intro zv w hzr cells hfill
        have hpl : (parts.map fun (i, x) => (i, ρ x)).toList = parts.toList.map fun (i, x) => (i, ρ x) := by simp
        unfold Instr.build
        simp only [Sem.run_bind, hzr, run_underlying hd, Result.andThen_ok, sizeOf_run (C := C) hs, hpl, hfill, Sem.run_pure]
    · cases hc
  · cases hc

end Go.Abs
