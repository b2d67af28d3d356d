/- Slices that are made: literals, make, append, copy. -/
import Derived.Test.YteiajndkjnlmiaaGreatDoorXeOps6
set_option linter.unusedVariables false
set_option linter.unusedSimpArgs false
namespace Go.Abs
open Go
variable {C : Ctx} {fid : Nat → Nat} {w w' : World} {G G' : Gh} {H : Heap}
variable {vars : List Nat} {ev : Opd → V} {ρ : Operand → Value} {low low' : Nat} {v : V} {H' : Heap} {pos : String} {aop : AOp} {o : Oper}

/-- A new block that no object names. -/
theorem RelH.allocI (hR : RelH C fid G H w) (ob : Obj) (p : Prop) : RelH C fid ⟨G.β, fun b => G.I b ∨ (b = w.heap.size ∧ p)⟩ H (w.alloc ob) where
  obj l h hb := by
    obtain ⟨o, ho, hr⟩ := hR.obj l h hb
    exact ⟨o, ho, ORel.mono (G := G) (G' := ⟨G.β, fun b => G.I b ∨ (b = w.heap.size ∧ p)⟩) (HomesLe.refl _) (fun b (hi : G.I b) => ⟨.inl hi, alloc_old (hR.imm b hi).1⟩) (alloc_old (hR.blk l h hb)) hr⟩
  inj := hR.inj
  blk l h hb := by rw [World.size_alloc]; have := hR.blk l h hb; omega
  imm b hi := by
    rw [World.size_alloc]
    rcases hi with hi | ⟨rfl, -⟩
    · exact ⟨by have := (hR.imm b hi).1; omega, (hR.imm b hi).2⟩
    · exact ⟨by omega, fun l h hb q => by have := hR.blk l h hb; omega⟩
  fzI l h hb hf := .inl (hR.fzI l h hb hf)
  glob b o hg := ⟨.inl (hR.glob b o hg).1, by rw [alloc_old (hR.imm b (hR.glob b o hg).1).1]; exact (hR.glob b o hg).2⟩

theorem Ext.allocI (ob : Obj) (p : Prop) (m n : Nat) : Ext G w ⟨G.β, fun b => G.I b ∨ (b = w.heap.size ∧ p)⟩ (w.alloc ob) m n where
  size := by simp
  os := rfl
  tape := rfl
  output := rfl
  keep b hb _ := alloc_old hb
  homes := .refl _
  newH l h hb := .inl ⟨h, hb, .inl rfl⟩
  imm _ h := .inl h
  newI b hi := by
    rcases hi with hi | ⟨rfl, -⟩
    · exact .inl hi
    · exact .inr (.inl (Nat.le_refl _))

theorem zeroElem_cells {z : List V} (h : cellsOk z = true) : cellsV (zeroElem z) = z := by
  unfold zeroElem
  split
  · rename_i x
    simp only [cellsOk, Bool.and_true] at h
    cases x <;> first | rfl | simp [cellOk] at h
  · rfl

theorem replicate_rel {z : List V} {zv : Array Value} (hz : VRels fid G w z zv.toList) (hok : cellsOk z = true) (hpos : 0 < zv.size) : ∀ (n : Nat),
    VRels fid G w ((List.replicate n (zeroElem z)).flatMap cellsV) ((List.range (n * zv.size)).map fun i => zv[i % zv.size]!)
  | 0 => by simpa using VRels.nil
  | n + 1 => by
    have ih := replicate_rel hz hok hpos n
    have e1 : (n + 1) * zv.size = zv.size + n * zv.size := by rw [Nat.succ_mul, Nat.add_comm]
    rw [List.replicate_succ, List.flatMap_cons, zeroElem_cells hok, e1, List.range_add, List.map_append, List.map_map]
    have e2 : (List.range zv.size).map (fun i => zv[i % zv.size]!) = zv.toList := by
      apply List.ext_getElem?
      intro j
      simp only [List.getElem?_map]
      by_cases hj : j < zv.size
      · rw [List.getElem?_range hj]
        simp [Nat.mod_eq_of_lt hj, hj]
      · rw [List.getElem?_eq_none (by simpa using hj), List.getElem?_eq_none (by simpa using hj)]; rfl
    have e3 : ((fun i => zv[i % zv.size]!) ∘ (zv.size + ·)) = fun i => zv[i % zv.size]! := by
      funext i; simp
    rw [e2, e3]
    exact hz.append ih

theorem replicate_u {z : List V} (hok : cellsOk z = true) {n k : Nat} (hk : z.length = k) : ∀ d ∈ List.replicate n (zeroElem z), (cellsV d).length = k := by
  intro d hd
  rw [(List.mem_replicate.1 hd).2, zeroElem_cells hok, hk]

/-- A new row object. -/
theorem rowObj (hR : RelH C fid G H w) {es : Nat} {ds : List V} {c : Array Value} {vals rest : List Value} {e : TypeId} (hes : 0 < es) (hn : 0 < ds.length) (hu : ∀ d ∈ ds, (cellsV d).length = es) (hc : c.toList = vals ++ rest)
    (hv : VRels fid G w (ds.flatMap cellsV) vals) :
    ORel C fid ⟨upd G.β H.length ⟨w.heap.size, ds.length, c.size, false⟩, G.I⟩ (w.alloc (.cells c e)) ⟨w.heap.size, ds.length, c.size, false⟩ (.row es ds false) :=
  ⟨rfl, hn, rfl, hes, hu, c, e, vals, rest, alloc_new _ _, rfl, hc, hv.ext hR (Ext.push hR _ ds.length c.size 0)⟩

theorem s_lit (hR : RelH C fid G H w) (hρ : OpdRel C fid vars G w ev ρ) {t : TypeId} {len : Nat} {parts : Array (Nat × Operand)} (ho : o.op = .buildSlice t len parts) (hc : C.op0 vars pos o.op = some aop) (he : step ev H low aop = some (v, H', low')) :
    Did C fid G H w low ((execOp ρ o).run C.P w) v H' low' := by
  rw [ho] at hc
  have hrun : (execOp ρ o).run C.P w = ((Instr.buildSlice t len (parts.map fun (i, x) => (i, ρ x))).run C.P w).andThen fun z w' => .ok (.value z) w' := by
    unfold execOp; rw [ho]; simp only [Sem.run_bind]; rfl
  simp only [Ctx.op0] at hc
  split at hc
  · rename_i e hd
    split at hc
    · rename_i n z ap hn hz hap
      split at hc
      · cases hc
      · rename_i hcond
        simp only [not_or, Nat.not_lt, ne_eq, Classical.not_not] at hcond
        obtain ⟨hn0, hlim, hzl⟩ := hcond
        simp only [Option.some.injEq] at hc; subst hc
        obtain ⟨zv, hzr, hzrel, hok, -⟩ := zeroCells_run (fid := fid) hz
        have hlen := mapO_length _ hap
        have hzsz : zv.cells.size = n := by rw [← Array.length_toList, (hzrel G w).length, hzl]
        simp only [step] at he
        split at he
        · rename_i vs H1 low1 hf
          have hvals : VRels fid G w (ap.map fun p => ev p.2) (parts.toList.map fun p => ρ p.2) := by
            refine VRels.mem_of_forall (by simp [hlen]) (fun j a x h1 h2 => ?_)
            simp only [List.getElem?_map, Option.map_eq_some_iff] at h1 h2
            obtain ⟨a', ha', rfl⟩ := h1
            obtain ⟨p', hp', rfl⟩ := h2
            have := mapO_get _ hap hp' ha'
            obtain ⟨ax, hx, rfl⟩ := Option.map_eq_some_iff.1 this
            exact hρ _ _ hx
          obtain ⟨G1, f1, k1⟩ := freezeVs_sound hR hvals hf
          have hvl' : vs.length = ap.length := by have := k1.length; simp only [List.length_map] at this; omega
          split at he
          · rename_i ds hds
            have hpsl : ((parts.map fun (i, x) => (i, ρ x)).toList) = parts.toList.map fun (i, x) => (i, ρ x) := by simp
            have hinit : VRels fid G1 w ((List.replicate len (zeroElem z)).flatMap cellsV) (((Array.range (len * n)).map fun i => (if len * n = 0 then #[] else zv.cells)[i % (if len * n = 0 then #[] else zv.cells : Array Value).size]!).toList) := by
              by_cases hl0 : len = 0
              · subst hl0; simpa using VRels.nil
              · have h0 : len * n ≠ 0 := Nat.mul_ne_zero hl0 hn0
                have := replicate_rel (hzrel G1 w) hok (by omega) len
                rw [hzsz] at this
                simpa [h0, hzsz] using this
            obtain ⟨cells, e1, e2, e3, e4⟩ := fillL_sound (fid := fid) (G := G1) (w := w) (es := n) (ps := parts.toList.map fun (i, x) => (i, ρ x)) (as := (ap.zip vs).map fun (p, v) => (p.1, v))
              (by simp [hlen, hvl']) (fun j p a h1 h2 => by
                simp only [List.getElem?_map, Option.map_eq_some_iff] at h1 h2
                obtain ⟨p', hp', rfl⟩ := h1
                obtain ⟨⟨a', v'⟩, ha', rfl⟩ := h2
                rw [List.getElem?_zip_eq_some] at ha'
                have := mapO_get _ hap hp' ha'.1
                obtain ⟨ax, hx, rfl⟩ := Option.map_eq_some_iff.1 this
                refine ⟨rfl, ?_⟩
                obtain ⟨y, hy, hrel⟩ := k1.get ha'.2
                simp only [List.getElem?_map, hp', Option.map_some, Option.some.injEq] at hy
                subst hy; exact hrel) (replicate_u hok hzl) hinit hds
            rw [List.length_replicate] at e4
            have hb : (Instr.buildSlice t len (parts.map fun (i, x) => (i, ρ x))).run C.P w = .ok (.slice (some ⟨w.heap.size, 0, none⟩) len len) (w.alloc (.cells cells e)) := by
              unfold Instr.buildSlice
              have hl : ¬ len * n > 2 ^ 24 := by omega
              simp only [Sem.run_bind, run_underlying hd, Result.andThen_ok, sizeOf_run (C := C) hn, hl, if_false, hpsl]
              by_cases h0 : len * n = 0
              · simp only [h0, if_true] at e1 ⊢
                simp only [Sem.run_bind, Sem.run_pure, Result.andThen_ok, e1, newRow, run_newObj, World.alloc_eq]
              · simp only [h0, if_false] at e1 ⊢
                simp only [Sem.run_bind, Sem.run_pure, Result.andThen_ok, hzr, e1, newRow, run_newObj, World.alloc_eq]
            have hval : (execOp ρ o).run C.P w = .ok (.value (.slice (some ⟨w.heap.size, 0, none⟩) len len)) (w.alloc (.cells cells e)) := by rw [hrun, hb]; rfl
            have hes : 0 < n := Nat.pos_of_ne_zero hn0
            have emp : Did C fid G H w low ((execOp ρ o).run C.P w) .emp H1 low1 → True := fun _ => trivial
            have mkEmp : len = 0 → Did C fid G H w low ((execOp ρ o).run C.P w) .emp H1 low1 := by
              intro h0
              refine Did.afterFreeze f1 ⟨_, _, _, .inl hval, f1.rel.allocI _ False, fun m _ => Ext.allocI _ _ _ _, ?_, Nat.le_refl _, Nat.le_refl _⟩
              subst h0; exact .p _ _ (.emp _)
            split at he
            · split at he
              · rename_i him hp
                by_cases h0 : len = 0
                · simp only [h0, if_true, Option.some.injEq, Prod.mk.injEq] at he
                  obtain ⟨rfl, rfl, rfl⟩ := he
                  exact mkEmp h0
                · simp only [h0, if_false, Option.some.injEq, Prod.mk.injEq] at he
                  obtain ⟨rfl, rfl, rfl⟩ := he
                  refine Did.afterFreeze f1 ⟨_, _, ⟨G1.β, fun b => G1.I b ∨ (b = w.heap.size ∧ True)⟩, .inl hval, f1.rel.allocI _ True, fun m _ => Ext.allocI _ _ _ _, ?_, Nat.le_refl _, Nat.le_refl _⟩
                  have hx := Ext.allocI (G := G1) (w := w) (.cells cells e) True 0 H1.length
                  have key := PRel.list (w := w.alloc (.cells cells e)) (I := fun b => G1.I b ∨ (b = w.heap.size ∧ True)) n ds w.heap.size 0 len cells.toList (.inr ⟨rfl, trivial⟩)
                    (CellsAt.of_row (rest := []) (alloc_new _ _) (by simp)) e3 ((e2.ext f1.rel hx).toP (isPs_flat hp)) (by omega)
                  rw [e4] at key
                  exact .p _ _ key
              · cases he
            · split at he
              · rename_i h0
                simp only [Option.some.injEq, Prod.mk.injEq] at he
                obtain ⟨rfl, rfl, rfl⟩ := he
                exact mkEmp h0
              · rename_i h0
                simp only [Option.some.injEq, Prod.mk.injEq] at he
                obtain ⟨rfl, rfl, rfl⟩ := he
                have hcsz : cells.size = len * n := by
                  rw [← Array.length_toList, e2.length, flat_length e3, e4]
                refine Did.afterFreeze f1 (Did.alloc f1.rel ds.length cells.size hval (rowObj f1.rel hes (by omega) e3 (rest := []) (by simp) e2) ?_)
                refine .sref _ n 0 len len ⟨w.heap.size, ds.length, cells.size, false⟩ _ _ _ (upd_same _ _ _) (by simp only; omega) (fun _ => ⟨by simp, rfl, ?_, Nat.le_refl _⟩)
                rw [hcsz, Nat.zero_add]; exact Nat.le_refl _
          · cases he
        · cases he
    · cases hc
  · cases hc

end Go.Abs
