/- The plain operations, one by one. -/
import Derived.Test.YteiajndkjnlmiaaGreatDoorXeOps
import Derived.WalkLawsBesides
set_option linter.unusedVariables false
set_option linter.unusedSimpArgs false
namespace Go.Abs
open Go
variable {C : Ctx} {fid : Nat → Nat} {w w' : World} {G G' : Gh} {H : Heap}
variable {vars : List Nat} {ev : Opd → V} {ρ : Operand → Value} {low low' : Nat} {v : V} {H' : Heap} {pos : String} {aop : AOp} {o : Oper}

theorem s_move (hR : RelH C fid G H w) (hρ : OpdRel C fid vars G w ev ρ) {x : Operand} (ho : o.op = .move x ∨ o.op = .assign x) (hc : C.op0 vars pos o.op = some aop) (he : step ev H low aop = some (v, H', low')) :
    Did C fid G H w low ((execOp ρ o).run C.P w) v H' low' := by
  have hc' : (C.opd vars x).map AOp.mv = some aop := by rcases ho with ho | ho <;> (rw [ho] at hc; exact hc)
  obtain ⟨ax, hx, rfl⟩ := Option.map_eq_some_iff.1 hc'
  simp only [step, Option.some.injEq, Prod.mk.injEq] at he
  obtain ⟨rfl, rfl, rfl⟩ := he
  exact .same hR (x := ρ x) (by unfold execOp; rcases ho with ho | ho <;> rw [ho] <;> rfl) (hρ x ax hx)

theorem s_pick (hR : RelH C fid G H w) (hρ : OpdRel C fid vars G w ev ρ) {c a b : Operand} (ho : o.op = .pick c a b) (hc : C.op0 vars pos o.op = some aop) (he : step ev H low aop = some (v, H', low')) :
    Did C fid G H w low ((execOp ρ o).run C.P w) v H' low' := by
  rw [ho] at hc
  simp only [Ctx.op0] at hc
  split at hc
  · rename_i c' a' b' h1 h2 h3
    simp only [Option.some.injEq] at hc; subst hc
    simp only [step] at he
    obtain ⟨t, ht, he⟩ := Option.map_eq_some_iff.1 he
    simp only [Prod.mk.injEq] at he
    obtain ⟨rfl, rfl, rfl⟩ := he
    have hcv : ev c' = .bool t := by
      unfold boolOf at ht
      split at ht
      · simp only [Option.some.injEq] at ht; subst ht; assumption
      · cases ht
    have := hρ c c' h1
    rw [hcv] at this
    have hb := this.boolInv
    refine .same hR (x := if t then ρ a else ρ b) (by unfold execOp; rw [ho]; simp only [hb, asBool, Sem.run_bind, Sem.run_pure, Result.andThen_ok]) ?_
    cases t
    · exact hρ b b' h3
    · exact hρ a a' h2
  · cases hc

theorem s_nilCheck (hR : RelH C fid G H w) (hρ : OpdRel C fid vars G w ev ρ) {x : Operand} (ho : o.op = .nilCheck x) (hc : C.op0 vars pos o.op = some aop) (he : step ev H low aop = some (v, H', low')) :
    Did C fid G H w low ((execOp ρ o).run C.P w) v H' low' := by
  rw [ho] at hc
  obtain ⟨ax, hx, rfl⟩ := Option.map_eq_some_iff.1 hc
  have hv := hρ x ax hx
  simp only [step] at he
  split at he
  · rename_i l o' e
    simp only [Option.some.injEq, Prod.mk.injEq] at he
    obtain ⟨rfl, rfl, rfl⟩ := he
    rw [e] at hv
    obtain ⟨h0, hb, ht, hx'⟩ := hv.ptrInv
    exact .same hR (x := ρ x) (by unfold execOp; rw [ho]; simp only [hx']; rfl) hv
  · rename_i l es i f tag e
    simp only [Option.some.injEq, Prod.mk.injEq] at he
    obtain ⟨rfl, rfl, rfl⟩ := he
    rw [e] at hv
    obtain ⟨h0, a, hb, hle, ha, hx'⟩ := hv.eptrInv
    exact .same hR (x := ρ x) (by unfold execOp; rw [ho]; simp only [hx']; rfl) hv
  · rename_i vs f e
    simp only [Option.some.injEq, Prod.mk.injEq] at he
    obtain ⟨rfl, rfl, rfl⟩ := he
    rw [e] at hv
    obtain ⟨b, o', vals, hI, hc, hr, hx'⟩ := hv.pinInv
    exact .same hR (x := ρ x) (by unfold execOp; rw [ho]; simp only [hx']; rfl) hv
  · rename_i i a b e
    simp only [Option.some.injEq, Prod.mk.injEq] at he
    obtain ⟨rfl, rfl, rfl⟩ := he
    rw [e] at hv
    obtain ⟨xs, ys, hf, hc, hx'⟩ := hv.fnInv
    exact .same hR (x := ρ x) (by unfold execOp; rw [ho]; simp only [hx']; rfl) hv
  · cases he

theorem s_un (hR : RelH C fid G H w) (hρ : OpdRel C fid vars G w ev ρ) {op : UnOp} {t : TypeId} {x : Operand} (ho : o.op = .unOp op t x) (hc : C.op0 vars pos o.op = some aop) (he : step ev H low aop = some (v, H', low')) :
    Did C fid G H w low ((execOp ρ o).run C.P w) v H' low' := by
  rw [ho] at hc
  obtain ⟨ax, hx, rfl⟩ := Option.map_eq_some_iff.1 hc
  have hv := hρ x ax hx
  simp only [step] at he
  obtain ⟨u, hu, he⟩ := Option.map_eq_some_iff.1 he
  simp only [Prod.mk.injEq] at he
  obtain ⟨rfl, rfl, rfl⟩ := he
  unfold unA at hu
  split at hu
  · rename_i k n e
    simp only [Option.some.injEq] at hu; subst hu
    rw [e] at hv
    exact .same hR (x := .int k (k.wrap (0 - n))) (by unfold execOp; rw [ho]; simp only [hv.intInv, Op.unary, Op.intArith, Sem.run_bind, Sem.run_pure, Result.andThen_ok]) (.p _ _ (.int _ _))
  · rename_i b e
    simp only [Option.some.injEq] at hu; subst hu
    rw [e] at hv
    exact .same hR (x := .bool !b) (by unfold execOp; rw [ho]; simp only [hv.boolInv, Op.unary, Sem.run_bind, Sem.run_pure, Result.andThen_ok]) (.p _ _ (.bool _))
  · cases hu

theorem s_convert (hR : RelH C fid G H w) (hρ : OpdRel C fid vars G w ev ρ) {s d : TypeId} {x : Operand} (ho : o.op = .convert s d x) (hc : C.op0 vars pos o.op = some aop) (he : step ev H low aop = some (v, H', low')) :
    Did C fid G H w low ((execOp ρ o).run C.P w) v H' low' := by
  rw [ho] at hc
  simp only [Ctx.op0] at hc
  split at hc
  · rename_i k0 k ax h1 h2 h3
    simp only [Option.some.injEq] at hc; subst hc
    have hv := hρ x ax h3
    simp only [step] at he
    split at he
    · rename_i k' n e
      simp only [Option.some.injEq, Prod.mk.injEq] at he
      obtain ⟨rfl, rfl, rfl⟩ := he
      rw [e] at hv
      exact .same hR (x := .int k (k.wrap n)) (by unfold execOp; rw [ho]; simp only [hv.intInv, convert, Sem.run_bind, run_underlying h1, run_underlying h2, Result.andThen_ok, Conv.intToInt, Sem.run_pure]) (.p _ _ (.int _ _))
    · cases he
  · cases hc

theorem s_mkIface (hR : RelH C fid G H w) (hρ : OpdRel C fid vars G w ev ρ) {t : TypeId} {x : Operand} (ho : o.op = .makeInterface t x) (hc : C.op0 vars pos o.op = some aop) (he : step ev H low aop = some (v, H', low')) :
    Did C fid G H w low ((execOp ρ o).run C.P w) v H' low' := by
  rw [ho] at hc
  simp only [Ctx.op0] at hc
  split at hc
  · cases hc
  · rename_i d ax hne h1 h2
    simp only [Option.some.injEq] at hc; subst hc
    have hv := hρ x ax h2
    simp only [step] at he
    split at he
    · rename_i v1 H1 low1 hf
      simp only [Option.some.injEq, Prod.mk.injEq] at he
      obtain ⟨rfl, rfl, rfl⟩ := he
      obtain ⟨G1, f1, k1⟩ := freezeV_sound hR hv hf
      refine Did.afterFreeze f1 (Did.same f1.rel (x := .iface t (ρ x)) ?_ (.iface _ _ _ k1))
      unfold execOp; rw [ho]
      simp only [Instr.makeInterface, Sem.run_bind, run_underlying h1, Result.andThen_ok]
      cases d <;> first | rfl | (exfalso; exact hne _ h1)
    · cases he
  · cases hc

theorem mapO_rel (hρ : OpdRel C fid vars G w ev ρ) : ∀ {xs : List Operand} {axs : List Opd}, mapO (C.opd vars) xs = some axs → VRels fid G w (axs.map ev) (xs.map ρ)
  | [], _, h => by simp only [mapO, Option.some.injEq] at h; subst h; exact .nil
  | x :: xs, _, h => by
    simp only [mapO] at h
    split at h
    · rename_i ax hx
      split at h
      · rename_i axs hxs
        simp only [Option.some.injEq] at h; subst h
        exact .cons _ _ _ _ (hρ x ax hx) (mapO_rel hρ hxs)
      · cases h
    · cases h

theorem s_mkFn (hC : CtxOk C fid) (hR : RelH C fid G H w) (hρ : OpdRel C fid vars G w ev ρ) {f : Fn} {a b : Array Operand} (ho : o.op = .makeFunc f a b) (hc : C.op0 vars pos o.op = some aop) (he : step ev H low aop = some (v, H', low')) :
    Did C fid G H w low ((execOp ρ o).run C.P w) v H' low' := by
  rw [ho] at hc
  cases f with
  | func f =>
    simp only [Ctx.op0] at hc
    split at hc
    · rename_i i a' b' h1 h2 h3
      simp only [Option.some.injEq] at hc; subst hc
      simp only [step, Option.some.injEq, Prod.mk.injEq] at he
      obtain ⟨rfl, rfl, rfl⟩ := he
      refine .same hR (x := .func (.func f) (a.map ρ) (b.map ρ)) (by unfold execOp; rw [ho]; rfl) ?_
      have := VRel.fn (fid := fid) i _ _ _ _ (mapO_rel hρ h2) (mapO_rel hρ h3)
      rw [hC.f f i h1] at this
      have e1 : a.map ρ = ⟨a.toList.map ρ⟩ := by rw [← Array.toList_map]
      have e2 : b.map ρ = ⟨b.toList.map ρ⟩ := by rw [← Array.toList_map]
      rw [e1, e2]; exact this
    · cases hc
  | _ => simp [Ctx.op0] at hc

theorem s_extract (hR : RelH C fid G H w) (hρ : OpdRel C fid vars G w ev ρ) {x : Operand} {i : Nat} (ho : o.op = .extract x i) (hc : C.op0 vars pos o.op = some aop) (he : step ev H low aop = some (v, H', low')) :
    Did C fid G H w low ((execOp ρ o).run C.P w) v H' low' := by
  rw [ho] at hc
  obtain ⟨ax, hx, rfl⟩ := Option.map_eq_some_iff.1 hc
  have hv := hρ x ax hx
  simp only [step] at he
  split at he
  · rename_i vs e
    obtain ⟨u, hu, he⟩ := Option.map_eq_some_iff.1 he
    simp only [Prod.mk.injEq] at he
    obtain ⟨rfl, rfl, rfl⟩ := he
    rw [e] at hv
    obtain ⟨vals, hx', hr⟩ := hv.tupInv
    obtain ⟨y, hy, hrel⟩ := hr.get hu
    exact .same hR (x := y) (by unfold execOp; rw [ho]; simp only [hx', Instr.extract, List.getElem?_toArray, hy, Sem.run_bind, Sem.run_pure, Result.andThen_ok]) hrel
  · cases he

theorem s_field (hR : RelH C fid G H w) (hρ : OpdRel C fid vars G w ev ρ) {s : TypeId} {x : Operand} {f : Nat} (ho : o.op = .field s x f) (hc : C.op0 vars pos o.op = some aop) (he : step ev H low aop = some (v, H', low')) :
    Did C fid G H w low ((execOp ρ o).run C.P w) v H' low' := by
  rw [ho] at hc
  simp only [Ctx.op0] at hc
  split at hc
  · rename_i fs ax h1 h2
    split at hc
    · rename_i fl h3
      obtain ⟨sh, h4, rfl⟩ := Option.map_eq_some_iff.1 hc
      have hv := hρ x ax h2
      simp only [step] at he
      split at he
      · rename_i vs e
        obtain ⟨u, hu, he⟩ := Option.map_eq_some_iff.1 he
        simp only [Prod.mk.injEq] at he
        obtain ⟨rfl, rfl, rfl⟩ := he
        rw [e] at hv
        obtain ⟨vals, hx', hr⟩ := hv.aggInv
        have hk := hr.readCells hu
        rcases shape_run h4 with ⟨n, rfl, ha, hs⟩ | ⟨rfl, ha⟩
        · refine .same hR (x := .agg ⟨(vals.drop fl.offset).take n⟩) ?_ hk.2
          unfold execOp; rw [ho]
          simp only [hx', Instr.field, Sem.run_bind, run_underlying h1, Result.andThen_ok, h3, asAgg, Sem.run_pure, part, ha, hs, if_true]
          congr 3
          apply Array.ext'
          simp
        · obtain ⟨y, hy, hrel⟩ := hk
          refine .same hR (x := y) ?_ hrel
          unfold execOp; rw [ho]
          simp only [hx', Instr.field, Sem.run_bind, run_underlying h1, Result.andThen_ok, h3, asAgg, Sem.run_pure, part, ha, Bool.false_eq_true, if_false, List.getElem?_toArray, hy]
      · cases he
    · cases hc
  · cases hc

theorem s_fieldAddr (hR : RelH C fid G H w) (hρ : OpdRel C fid vars G w ev ρ) {s : TypeId} {x : Operand} {f : Nat} (ho : o.op = .fieldAddr s x f) (hc : C.op0 vars pos o.op = some aop) (he : step ev H low aop = some (v, H', low')) :
    Did C fid G H w low ((execOp ρ o).run C.P w) v H' low' := by
  rw [ho] at hc
  simp only [Ctx.op0] at hc
  split at hc
  · rename_i fs ax h1 h2
    split at hc
    · rename_i fl h3
      split at hc
      · rename_i n h4
        split at hc
        · cases hc
        · rename_i hn
          simp only [Option.some.injEq] at hc; subst hc
          have hv := hρ x ax h2
          have hrun : ∀ a, ρ x = .pointer (some a) → (execOp ρ o).run C.P w = .ok (.value (.pointer (some (a.add fl.offset)))) w := by
            intro a ha
            simp only [Ctx.sizeOf, Option.map_eq_some_iff] at h4
            obtain ⟨i, hi, rfl⟩ := h4
            unfold execOp; rw [ho]
            simp only [ha, Instr.fieldAt, Sem.run_bind, run_underlying h1, Result.andThen_ok, h3, Instr.sureAddr, Sem.run_pure, fieldPlace, sizeOf, run_typeInfo (P := C.P) w hi, hn, if_false]
          simp only [step] at he
          split at he
          · rename_i l o' e
            simp only [Option.some.injEq, Prod.mk.injEq] at he
            obtain ⟨rfl, rfl, rfl⟩ := he
            rw [e] at hv
            obtain ⟨h0, hb, ht, hx'⟩ := hv.ptrInv
            refine .same hR (hrun _ hx') ?_
            rw [Addr.add_lit]; exact .ptr l _ h0 hb ht
          · rename_i l es i f' tag e
            simp only [Option.some.injEq, Prod.mk.injEq] at he
            obtain ⟨rfl, rfl, rfl⟩ := he
            rw [e] at hv
            obtain ⟨h0, a, hb, hle, ha, hx'⟩ := hv.eptrInv
            refine .same hR (hrun _ hx') (.eptr l es i _ tag h0 _ hb hle (fun ht => ?_))
            rw [ha ht, Addr.add_lit, Nat.add_assoc]
          · rename_i vs f' e
            simp only [Option.some.injEq, Prod.mk.injEq] at he
            obtain ⟨rfl, rfl, rfl⟩ := he
            rw [e] at hv
            obtain ⟨b, o', vals, hI, hc, hr, hx'⟩ := hv.pinInv
            refine .same hR (hrun _ hx') ?_
            rw [Addr.add_lit, Nat.add_assoc]
            exact .pin vs _ b o' vals hI hc hr
          · cases he
      · cases hc
    · cases hc
  · cases hc

theorem s_load (hR : RelH C fid G H w) (hρ : OpdRel C fid vars G w ev ρ) {t : TypeId} {a : Operand} (ho : o.op = .load t a) (hc : C.op0 vars pos o.op = some aop) (he : step ev H low aop = some (v, H', low')) :
    Did C fid G H w low ((execOp ρ o).run C.P w) v H' low' := by
  rw [ho] at hc
  simp only [Ctx.op0] at hc
  split at hc
  · rename_i sh ax h1 h2
    simp only [Option.some.injEq] at hc; subst hc
    simp only [step] at he
    obtain ⟨u, hu, he⟩ := Option.map_eq_some_iff.1 he
    simp only [Prod.mk.injEq] at he
    obtain ⟨rfl, rfl, rfl⟩ := he
    obtain ⟨y, hy, hrel⟩ := loadA_sound hR h1 (hρ a ax h2) hu
    exact .same hR (x := y) (by unfold execOp; rw [ho]; simp only [Sem.run_bind, hy, Result.andThen_ok, Sem.run_pure]) hrel
  · cases hc

theorem s_store (hR : RelH C fid G H w) (hρ : OpdRel C fid vars G w ev ρ) {t : TypeId} {a x : Operand} (ho : o.op = .store t a x) (hc : C.op0 vars pos o.op = some aop) (hlow : low ≤ H.length) (he : step ev H low aop = some (v, H', low')) :
    Did C fid G H w low ((execOp ρ o).run C.P w) v H' low' := by
  rw [ho] at hc
  simp only [Ctx.op0] at hc
  split at hc
  · rename_i n ax bx h1 h2 h3
    simp only [Option.some.injEq] at hc; subst hc
    simp only [step] at he
    obtain ⟨⟨H1, l⟩, hu, he⟩ := Option.map_eq_some_iff.1 he
    simp only [Prod.mk.injEq] at he
    obtain ⟨rfl, rfl, rfl⟩ := he
    obtain ⟨w1, G1, hrun, r1, e1, hl, hlen⟩ := storeA_sound hR h1 (hρ a ax h2) (hρ x bx h3) hu
    exact ⟨undef, w1, G1, .inr ⟨by unfold execOp; rw [ho]; simp only [Sem.run_bind, hrun, Result.andThen_ok, Sem.run_pure], rfl⟩, r1, fun m hm => e1.le (Nat.le_trans hm (Nat.min_le_right _ _)) (Nat.le_refl _), .undef _, Nat.min_le_left _ _, Nat.le_of_eq hlen.symm⟩
  · cases hc

theorem s_alloc (hR : RelH C fid G H w) {t : TypeId} (ho : o.op = .alloc t) (hc : C.op0 vars pos o.op = some aop) (he : step ev H low aop = some (v, H', low')) :
    Did C fid G H w low ((execOp ρ o).run C.P w) v H' low' := by
  rw [ho] at hc
  obtain ⟨z, hz, rfl⟩ := Option.map_eq_some_iff.1 hc
  simp only [step, Option.some.injEq, Prod.mk.injEq] at he
  obtain ⟨rfl, rfl, rfl⟩ := he
  unfold Ctx.zeroCells at hz
  split at hz
  · rename_i i hi
    split at hz
    · rename_i zv hzv
      split at hz
      · rename_i vs hvs
        split at hz
        · simp only [Option.some.injEq] at hz; subst hz
          refine .alloc hR 0 0 (x := .pointer (some ⟨w.heap.size, 0, none⟩)) (ob := .cells zv.cells t) ?_ ⟨rfl, rfl, zv.cells, t, alloc_new _ _, ?_⟩ (.ptr _ _ ⟨w.heap.size, 0, 0, false⟩ (upd_same _ _ _) rfl)
          · unfold execOp; rw [ho]
            simp only [Instr.alloc, zeroValue, Sem.run_bind, run_typeInfo (P := C.P) w hi, Result.andThen_ok, hzv, Sem.run_pure, newVar, newRow, run_newObj, World.alloc_eq]
          · exact PRels.toV (constVs_sound _ hvs)
        · cases hz
      · cases hz
    · cases hz
  · cases hz

theorem s_box (hR : RelH C fid G H w) (hρ : OpdRel C fid vars G w ev ρ) {t : TypeId} {x : Operand} (ho : o.op = .box t x) (hc : C.op0 vars pos o.op = some aop) (he : step ev H low aop = some (v, H', low')) :
    Did C fid G H w low ((execOp ρ o).run C.P w) v H' low' := by
  rw [ho] at hc
  obtain ⟨ax, hx, rfl⟩ := Option.map_eq_some_iff.1 hc
  simp only [step] at he
  split at he
  · rename_i hok
    simp only [Option.some.injEq, Prod.mk.injEq] at he
    obtain ⟨rfl, rfl, rfl⟩ := he
    have hv := hρ x ax hx
    refine .alloc hR 0 0 (x := .pointer (some ⟨w.heap.size, 0, none⟩)) (ob := .cells (ρ x).cells t) ?_ ⟨rfl, rfl, (ρ x).cells, t, alloc_new _ _, ?_⟩ (.ptr _ _ ⟨w.heap.size, 0, 0, false⟩ (upd_same _ _ _) rfl)
    · unfold execOp; rw [ho]
      simp only [Instr.box, Sem.run_bind, Sem.run_pure, Result.andThen_ok, newVar, newRow, run_newObj, World.alloc_eq]
    · exact (cells_rel hv hok).1.ext hR (Ext.push hR _ 0 0 0)
  · cases he

theorem s_mkMap (hR : RelH C fid G H w) {t : TypeId} {r : Option Operand} (ho : o.op = .makeMap t r) (hc : C.op0 vars pos o.op = some aop) (he : step ev H low aop = some (v, H', low')) :
    Did C fid G H w low ((execOp ρ o).run C.P w) v H' low' := by
  rw [ho] at hc
  cases r with
  | some _ => simp [Ctx.op0] at hc
  | none =>
    simp only [Ctx.op0, Option.some.injEq] at hc; subst hc
    simp only [step, Option.some.injEq, Prod.mk.injEq] at he
    obtain ⟨rfl, rfl, rfl⟩ := he
    refine .alloc hR 0 0 (x := .map (some w.heap.size)) (ob := .map #[] 0) ?_ ⟨rfl, rfl, #[], 0, alloc_new _ _, .nil, .nil⟩ (.map _ ⟨w.heap.size, 0, 0, false⟩ (upd_same _ _ _) rfl)
    unfold execOp; rw [ho]
    simp only [Instr.makeMap, Sem.run_bind, Sem.run_pure, Result.andThen_ok, run_newObj, World.alloc_eq, Option.map_none]

theorem natOf_inv {u : V} {n : Nat} (h : natOf u = some n) : ∃ k m, u = .int k m ∧ 0 ≤ m ∧ m.toNat = n := by
  unfold natOf at h
  split at h
  · split at h
    · simp only [Option.some.injEq] at h
      exact ⟨_, _, rfl, by assumption, h⟩
    · cases h
  · cases h

theorem s_indexS (hR : RelH C fid G H w) (hρ : OpdRel C fid vars G w ev ρ) {t : TypeId} {x i : Operand} (ho : o.op = .index t x i) (hc : C.op0 vars pos o.op = some aop) (he : step ev H low aop = some (v, H', low')) :
    Did C fid G H w low ((execOp ρ o).run C.P w) v H' low' := by
  rw [ho] at hc
  simp only [Ctx.op0] at hc
  split at hc
  · rename_i ax bx h1 h2 h3
    simp only [Option.some.injEq] at hc; subst hc
    simp only [step] at he
    split at he
    · rename_i s n e1 e2
      obtain ⟨c, hcc, he⟩ := Option.map_eq_some_iff.1 he
      simp only [Prod.mk.injEq] at he
      obtain ⟨rfl, rfl, rfl⟩ := he
      obtain ⟨k, m, e3, hm, hn⟩ := natOf_inv e2
      have hx := hρ x ax h2
      have hi := hρ i bx h3
      rw [e1] at hx; rw [e3] at hi
      refine .same hR (x := .int .u8 c.toNat) ?_ (.p _ _ (.int _ _))
      unfold execOp; rw [ho]
      have hget : (⟨⟨s⟩⟩ : ByteArray)[m.toNat]? = some c := by
        rw [hn]
        obtain ⟨hlt, hq⟩ := List.getElem?_eq_some_iff.1 hcc
        have : n < (⟨⟨s⟩⟩ : ByteArray).size := hlt
        rw [getElem?_pos (c := (⟨⟨s⟩⟩ : ByteArray)) (i := n) (h := this)]
        congr 1
      simp only [hx.strInv, hi.intInv, Instr.index, asIntOf, Sem.run_bind, Sem.run_pure, Result.andThen_ok, run_underlying h1, hm, if_true, hget]
    · cases he
  · cases hc

end Go.Abs
