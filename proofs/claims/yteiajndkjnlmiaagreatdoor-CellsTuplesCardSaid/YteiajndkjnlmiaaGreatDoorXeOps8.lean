/- make, append, copy. -/
import Derived.Test.YteiajndkjnlmiaaGreatDoorXeOps7
set_option linter.unusedVariables false
set_option linter.unusedSimpArgs false
namespace Go.Abs
open Go
variable {C : Ctx} {fid : Nat → Nat} {w w' : World} {G G' : Gh} {H : Heap}
variable {vars : List Nat} {ev : Opd → V} {ρ : Operand → Value} {low low' : Nat} {v : V} {H' : Heap} {pos : String} {aop : AOp} {o : Oper}

theorem wrap64_small {n : Int} (h0 : 0 ≤ n) (h : n ≤ 1099511627776) : IntKind.i64.wrap n = n := by
  have e : n % (2 ^ IntKind.i64.bits : Int) = n := Int.emod_eq_of_lt h0 (by show n < (2 ^ 64 : Int); omega)
  unfold IntKind.wrap
  rw [e]
  have : ¬ (n ≥ (2 ^ (IntKind.i64.bits - 1) : Int)) := by show ¬ n ≥ (2 ^ 63 : Int); omega
  simp [this]

theorem s_mkSlice (hR : RelH C fid G H w) (hρ : OpdRel C fid vars G w ev ρ) {t : TypeId} {l c : Operand} (ho : o.op = .makeSlice t l c) (hc : C.op0 vars pos o.op = some aop) (he : step ev H low aop = some (v, H', low')) :
    Did C fid G H w low ((execOp ρ o).run C.P w) v H' low' := by
  rw [ho] at hc
  simp only [Ctx.op0] at hc
  split at hc
  · rename_i e hd
    split at hc
    · rename_i i z al ac hi hz h1 h2
      split at hc
      · cases hc
      · rename_i hcond
        simp only [not_or, ne_eq, Classical.not_not] at hcond
        simp only [Option.some.injEq] at hc; subst hc
        obtain ⟨zv, hzr, hzrel, hok, -⟩ := zeroCells_run (fid := fid) hz
        have hzsz : zv.cells.size = i.size := by rw [← Array.length_toList, (hzrel G w).length, hcond.2]
        have hl := hρ l al h1
        have hcc := hρ c ac h2
        simp only [step] at he
        split at he
        · rename_i k n k' m e1 e2
          split at he
          · rename_i hb
            obtain ⟨rfl, hn0, hbound⟩ := hb
            rw [e1] at hl; rw [e2] at hcc
            obtain ⟨j, rfl⟩ := Int.eq_ofNat_of_zero_le hn0
            have hb1 : j ≤ 1099511627776 := by
              have : (j : Int) * 1 ≤ (j : Int) * ((i.bytes : Int) + 1) := Int.mul_le_mul_of_nonneg_left (by omega) hn0
              omega
            have hb2 : (i.bytes : Int) * (j : Int) ≤ 1099511627776 := by
              have : (j : Int) * ((i.bytes : Int) + 1) = (i.bytes : Int) * (j : Int) + j := by rw [Int.mul_add, Int.mul_comm]; omega
              omega
            have hw := wrap64_small hn0 (by omega : (j : Int) ≤ 1099511627776)
            have hpos : 0 < i.size := Nat.pos_of_ne_zero hcond.1
            have hrun : ∃ cells, (execOp ρ o).run C.P w = .ok (.value (.slice (some ⟨w.heap.size, 0, none⟩) j j)) (w.alloc (.cells cells e)) ∧ cells.toList = (List.range (j * i.size)).map (fun q => zv.cells[q % zv.cells.size]!) := by
              refine ⟨(Array.range (j * i.size)).map (fun q => (if j * i.size = 0 then #[] else zv.cells : Array Value)[q % (if j * i.size = 0 then #[] else zv.cells : Array Value).size]!), ?_, ?_⟩
              · unfold execOp; rw [ho]
                have ht1 : ¬ ((decide ((j : Int) < 0) || decide ((i.bytes : Int) * (j : Int) > 2 ^ 48)) = true) := by simp; omega
                have ht2 : ¬ ((decide ((j : Int) < 0) || decide ((i.bytes : Int) * (j : Int) > 2 ^ 48) || decide ((j : Int) < 0) || decide ((j : Int) > (j : Int))) = true) := by simp; omega
                simp only [hl.intInv, hcc.intInv, Instr.makeSlice, asInt, asIntOf, Sem.run_bind, Sem.run_pure, Result.andThen_ok, run_underlying hd, run_typeInfo (P := C.P) w hi, hw]
                rw [if_neg (by simpa using ht2)]
                simp only [Sem.run_bind, run_askRoom, Result.andThen_ok, sizeOf, run_typeInfo (P := C.P) w hi, Sem.run_pure, Int.toNat_natCast]
                by_cases h0 : j * i.size = 0
                · simp only [h0, if_true, Sem.run_bind, Sem.run_pure, Result.andThen_ok, newRow, run_newObj, World.alloc_eq]
                · simp only [h0, if_false, Sem.run_bind, Sem.run_pure, Result.andThen_ok, hzr, newRow, run_newObj, World.alloc_eq]
              · by_cases h0 : j * i.size = 0
                · simp [h0]
                · simp [h0]
            obtain ⟨cells, hrun, hcl⟩ := hrun
            split at he
            · rename_i hj0
              simp only [Option.some.injEq, Prod.mk.injEq] at he
              obtain ⟨rfl, rfl, rfl⟩ := he
              obtain rfl : j = 0 := by omega
              exact ⟨_, _, _, .inl hrun, hR.allocI _ False, fun m _ => Ext.allocI _ _ _ _, .p _ _ (.emp _), Nat.le_refl _, Nat.le_refl _⟩
            · rename_i hj0
              simp only [Option.some.injEq, Prod.mk.injEq, Int.toNat_natCast] at he
              obtain ⟨rfl, rfl, rfl⟩ := he
              have hrep := replicate_rel (hzrel G w) hok (by omega) j
              rw [hzsz] at hrep hcl
              rw [← hcl] at hrep
              have hu := replicate_u hok (n := j) hcond.2
              have hcs : cells.size = j * i.size := by rw [← Array.length_toList, hrep.length, flat_length hu, List.length_replicate]
              refine Did.alloc hR (List.replicate j (zeroElem z)).length cells.size hrun (rowObj hR hpos (by simp; omega) hu (rest := []) (by simp) hrep) ?_
              refine .sref _ _ 0 j j ⟨w.heap.size, (List.replicate j (zeroElem z)).length, cells.size, false⟩ _ _ _ (upd_same _ _ _) (by simp) (fun _ => ⟨by simp, rfl, ?_, Nat.le_refl _⟩)
              rw [hcs, Nat.zero_add]; exact Nat.le_refl _
          · cases he
        · cases he
    · cases hc
  · cases hc

/-! ### append -/

/-- What the elements of a slice are in memory. -/
theorem elems_sound (hR : RelH C fid G H w) {es : Nat} {a : V} {xs : List V} {x : Value} (ha : VRel fid G w a x) (he : elems H es a = some xs) :
    ∃ ad cap, x = .slice ad xs.length cap ∧ (xs ≠ [] → ∃ b off vals, ad = some ⟨b, off, none⟩ ∧ CellsAt w b off vals ∧ VRels fid G w (xs.flatMap cellsV) vals ∧ ∀ d ∈ xs, (cellsV d).length = es) := by
  unfold elems at he
  split at he
  · simp only [Option.some.injEq] at he; subst he
    exact ⟨none, 0, ha.nil0Inv, fun h => absurd rfl h⟩
  · simp only [Option.some.injEq] at he; subst he
    obtain ⟨ad, hx⟩ := ha.empInv
    exact ⟨some ad, 0, hx, fun h => absurd rfl h⟩
  · split at he
    · rename_i hes
      simp only [Option.some.injEq] at he; subst he; subst hes
      obtain ⟨ad, cap, hx, -, hq⟩ := ha.listInv
      refine ⟨some ad, cap, hx, fun hne => ?_⟩
      rcases hq with rfl | ⟨b, off, vals, rfl, hI, hc, hu, hr⟩
      · exact absurd rfl hne
      · exact ⟨b, off, vals, rfl, hc, hr.toV, hu⟩
    · cases he
  · rename_i l es' off len tag
    split at he
    · rename_i es'' ds fz hl
      split at he
      · rename_i hcond
        obtain ⟨rfl, rfl, htag, hol⟩ := hcond
        simp only [Option.some.injEq] at he; subst he
        obtain ⟨h0, ad, nn, cap, hbb, hle0, had, hxx⟩ := ha.srefInv
        obtain ⟨ob, hob, hr⟩ := hR.obj l h0 hbb
        rw [hl] at hob; cases hob
        obtain ⟨ht, hpos, hf, hes, hu, c, e, vals, rest, hc, hcs, hv, hrel⟩ := hr
        obtain ⟨rfl, rfl, -, -⟩ := had (ht.trans htag)
        have hlen : ((ds.drop off).take nn).length = nn := by simp; omega
        rw [hlen]
        refine ⟨_, cap, hxx, fun _ => ⟨h0.b, off * es'', (vals.drop (off * es'')).take (nn * es''), rfl, ?_, ?_, fun d hd => hu d (List.mem_of_mem_drop (List.mem_of_mem_take hd))⟩⟩
        · have := ((CellsAt.of_row hc hv).drop (off * es'')).take (nn * es'')
          rwa [Nat.zero_add] at this
        · have hu' : ∀ d ∈ ds.drop off, (cellsV d).length = es'' := fun d hd => hu d (List.mem_of_mem_drop hd)
          rw [flat_take hu', flat_drop hu]
          exact (hrel.drop _).take _
      · cases he
    · cases he
  · cases he

theorem firstCells_run {size n cap : Nat} {b off : Nat} {vals : List Value} (hc : CellsAt w b off vals) (hl : vals.length = n * size) :
    (Builtin.firstCells size n (.slice (some ⟨b, off, none⟩) n cap)).run C.P w = .ok vals.toArray w := by
  have := run_loadCells_list (P := C.P) w ⟨b, off, none⟩ vals (fun j v hj => by rw [Addr.add_lit]; exact hc j v hj)
  rw [hl] at this
  exact this

theorem freezeV_cells (hR : RelH C fid G H w) {low low' : Nat} {v v' : V} {zs : List Value} {H' : Heap} (hv : VRels fid G w (cellsV v) zs) (he : freezeV H low v = some (v', H', low')) :
    ∃ G', Froze C fid G H w low G' H' low' ∧ VRels fid G' w (cellsV v') zs ∧ (cellsV v').length = (cellsV v).length := by
  unfold freezeV at he
  split at he
  · simp only [Option.some.injEq, Prod.mk.injEq] at he
    obtain ⟨rfl, rfl, rfl⟩ := he
    exact ⟨G, .refl hR _, hv, rfl⟩
  · split at he
    · rename_i vs
      split at he
      · rename_i vs' H1 low1 h1
        simp only [Option.some.injEq, Prod.mk.injEq] at he
        obtain ⟨rfl, rfl, rfl⟩ := he
        obtain ⟨G1, f1, k1⟩ := freezeL_sound hR hv h1
        exact ⟨G1, f1, k1, by have := k1.length; have := hv.length; simp only [cellsV] at *; omega⟩
      · cases he
    · rename_i vs
      split at he
      · rename_i vs' H1 low1 h1
        simp only [Option.some.injEq, Prod.mk.injEq] at he
        obtain ⟨rfl, rfl, rfl⟩ := he
        cases hv with
        | cons _ x _ xs h hs =>
          cases hs
          obtain ⟨vals, rfl, hr⟩ := h.tupInv
          obtain ⟨G1, f1, k1⟩ := freezeL_sound hR hr h1
          exact ⟨G1, f1, .cons _ _ _ _ (.tup _ _ k1) .nil, rfl⟩
      · cases he
    · rename_i hna hnt
      have e : cellsV v = [v] := by cases v <;> first | rfl | (exfalso; exact hna _ rfl)
      rw [e] at hv
      cases hv with
      | cons _ x _ xs h hs =>
        cases hs
        obtain ⟨G1, f1, k1⟩ := freeze1_sound hR h he
        have e' : cellsV v' = [v'] := by
          unfold freeze1 at he
          split at he
          · split at he
            · split at he
              · simp only [Option.some.injEq, Prod.mk.injEq] at he
                obtain ⟨rfl, -, -⟩ := he; rfl
              · cases he
            · cases he
          · simp only [Option.some.injEq, Prod.mk.injEq] at he
            obtain ⟨rfl, -, -⟩ := he; exact e
        rw [e', e]
        exact ⟨G1, f1, .cons _ _ _ _ k1 .nil, rfl⟩

theorem freezeVs_cells : ∀ {vs vs' : List V} {xs : List Value} {G : Gh} {H H' : Heap} {low low' : Nat}, RelH C fid G H w → VRels fid G w (vs.flatMap cellsV) xs → freezeVs H low vs = some (vs', H', low') →
    ∃ G', Froze C fid G H w low G' H' low' ∧ VRels fid G' w (vs'.flatMap cellsV) xs ∧ vs'.length = vs.length ∧ ∀ es, (∀ d ∈ vs, (cellsV d).length = es) → ∀ d ∈ vs', (cellsV d).length = es
  | [], _, _, G, H, H', low, low', hR, h, he => by
    simp only [freezeVs, Option.some.injEq, Prod.mk.injEq] at he
    obtain ⟨rfl, rfl, rfl⟩ := he
    exact ⟨G, .refl hR _, h, rfl, fun _ h => h⟩
  | v :: r, _, xs, G, H, H', low, low', hR, h, he => by
    simp only [freezeVs] at he
    split at he
    · rename_i v1 H1 low1 h1
      split at he
      · rename_i r2 H2 low2 h2
        simp only [Option.some.injEq, Prod.mk.injEq] at he
        obtain ⟨rfl, rfl, rfl⟩ := he
        rw [List.flatMap_cons] at h
        obtain ⟨ys, zs, rfl, hy, hz⟩ := h.split
        obtain ⟨G1, f1, k1, l1⟩ := freezeV_cells hR hy h1
        obtain ⟨G2, f2, k2, l2, u2⟩ := freezeVs_cells f1.rel (hz.ext hR (f1.ext 0 (Nat.zero_le _))) h2
        refine ⟨G2, f1.trans f2, ?_, by simp [l2], fun es hu d hd => ?_⟩
        · rw [List.flatMap_cons]; exact (k1.ext f1.rel (f2.ext 0 (Nat.zero_le _))).append k2
        · rcases List.mem_cons.1 hd with rfl | hd
          · rw [l1]; exact hu v (by simp)
          · exact u2 es (fun d hd => hu d (by simp [hd])) d hd
      · cases he
    · cases he

end Go.Abs
