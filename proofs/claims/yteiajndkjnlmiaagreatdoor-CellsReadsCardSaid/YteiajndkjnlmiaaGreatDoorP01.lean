/- The plain operations, one by one. -/
import Derived.Test.YteiajndkjnlmiaaGreatDoorP00
import Derived.WalkLawsBesides
import Derived.Laws.StructEq
import Derived.Laws.Append
set_option linter.unusedVariables false
set_option linter.unusedSimpArgs false
namespace Go.Abs
open Go
variable {C : Ctx} {fid : Nat → Nat} {w w' : World} {G G' : Gh} {H : Heap}
variable {vars : List Nat} {ev : Opd → V} {ρ : Operand → Value} {low low' : Nat} {v : V} {H' : Heap} {pos : String} {aop : AOp} {o : Oper}

theorem s_move (hR : RelH C fid G H w) (hρ : OpdRel C fid vars G w ev ρ) {x : Operand} (ho : o.op = .move x ∨ o.op = .assign x) (hc : C.op0 vars pos o.op = some aop) (he : step ev H low aop = some (v, H', low')) :
    Did C fid G H w low ((execOp ρ o).run C.P w) v H' low' := by
  have hc' : (C.opd vars x).map AOp.mv = some aop := by rcases ho with ho | ho <;> (rw [ho] at hc; exact hc)
  obtain ⟨ax, hx, rfl⟩ := Option.map_eq_some_iff.1 hc'
  simp only [step, Option.some.injEq, Prod.mk.injEq] at he
  obtain ⟨rfl, rfl, rfl⟩ := he
  exact .same hR (x := ρ x) (by unfold execOp; rcases ho with ho | ho <;> rw [ho] <;> rfl) (hρ x ax hx)

theorem s_pick (hR : RelH C fid G H w) (hρ : OpdRel C fid vars G w ev ρ) {c a b : Operand} (ho : o.op = .pick c a b) (hc : C.op0 vars pos o.op = some aop) (he : step ev H low aop = some (v, H', low')) :
    Did C fid G H w low ((execOp ρ o).run C.P w) v H' low' := by
  rw [ho] at hc
  simp only [Ctx.op0] at hc
  split at hc
  · rename_i c' a' b' h1 h2 h3
    simp only [Option.some.injEq] at hc; subst hc
    simp only [step] at he
    obtain ⟨t, ht, he⟩ := Option.map_eq_some_iff.1 he
    simp only [Prod.mk.injEq] at he
    obtain ⟨rfl, rfl, rfl⟩ := he
    have hcv : ev c' = .bool t := by
      unfold boolOf at ht
      split at ht
      · simp only [Option.some.injEq] at ht; subst ht; assumption
      · cases ht
    have := hρ c c' h1
    rw [hcv] at this
    have hb := this.boolInv
    refine .same hR (x := if t then ρ a else ρ b) (by unfold execOp; rw [ho]; simp only [hb, asBool, Sem.run_bind, Sem.run_pure, Result.andThen_ok]) ?_
    cases t
    · exact hρ b b' h3
    · exact hρ a a' h2
  · cases hc

theorem s_nilCheck (hR : RelH C fid G H w) (hρ : OpdRel C fid vars G w ev ρ) {x : Operand} (ho : o.op = .nilCheck x) (hc : C.op0 vars pos o.op = some aop) (he : step ev H low aop = some (v, H', low')) :
    Did C fid G H w low ((execOp ρ o).run C.P w) v H' low' := by
  rw [ho] at hc
  obtain ⟨ax, hx, rfl⟩ := Option.map_eq_some_iff.1 hc
  have hv := hρ x ax hx
  simp only [step] at he
  split at he
  · rename_i l o' e
    simp only [Option.some.injEq, Prod.mk.injEq] at he
    obtain ⟨rfl, rfl, rfl⟩ := he
    rw [e] at hv
    obtain ⟨h0, hb, ht, hx'⟩ := hv.ptrInv
    exact .same hR (x := ρ x) (by unfold execOp; rw [ho]; simp only [hx']; rfl) hv
  · rename_i l es i f tag e
    simp only [Option.some.injEq, Prod.mk.injEq] at he
    obtain ⟨rfl, rfl, rfl⟩ := he
    rw [e] at hv
    obtain ⟨h0, a, hb, hle, ha, hx'⟩ := hv.eptrInv
    exact .same hR (x := ρ x) (by unfold execOp; rw [ho]; simp only [hx']; rfl) hv
  · rename_i vs f e
    simp only [Option.some.injEq, Prod.mk.injEq] at he
    obtain ⟨rfl, rfl, rfl⟩ := he
    rw [e] at hv
    obtain ⟨b, o', vals, hI, hc, hr, hx'⟩ := hv.pinInv
    exact .same hR (x := ρ x) (by unfold execOp; rw [ho]; simp only [hx']; rfl) hv
  · rename_i i a b e
    simp only [Option.some.injEq, Prod.mk.injEq] at he
    obtain ⟨rfl, rfl, rfl⟩ := he
    rw [e] at hv
    obtain ⟨xs, ys, hf, hc, hx'⟩ := hv.fnInv
    exact .same hR (x := ρ x) (by unfold execOp; rw [ho]; simp only [hx']; rfl) hv
  · cases he

theorem s_un (hR : RelH C fid G H w) (hρ : OpdRel C fid vars G w ev ρ) {op : UnOp} {t : TypeId} {x : Operand} (ho : o.op = .unOp op t x) (hc : C.op0 vars pos o.op = some aop) (he : step ev H low aop = some (v, H', low')) :
    Did C fid G H w low ((execOp ρ o).run C.P w) v H' low' := by
  rw [ho] at hc
  obtain ⟨ax, hx, rfl⟩ := Option.map_eq_some_iff.1 hc
  have hv := hρ x ax hx
  simp only [step] at he
  obtain ⟨u, hu, he⟩ := Option.map_eq_some_iff.1 he
  simp only [Prod.mk.injEq] at he
  obtain ⟨rfl, rfl, rfl⟩ := he
  unfold unA at hu
  split at hu
  · rename_i k n e
    simp only [Option.some.injEq] at hu; subst hu
    rw [e] at hv
    exact .same hR (x := .int k (k.wrap (0 - n))) (by unfold execOp; rw [ho]; simp only [hv.intInv, Op.unary, Op.intArith, Sem.run_bind, Sem.run_pure, Result.andThen_ok]) (.p _ _ (.int _ _))
  · rename_i b e
    simp only [Option.some.injEq] at hu; subst hu
    rw [e] at hv
    exact .same hR (x := .bool !b) (by unfold execOp; rw [ho]; simp only [hv.boolInv, Op.unary, Sem.run_bind, Sem.run_pure, Result.andThen_ok]) (.p _ _ (.bool _))
  · cases hu

theorem s_convert (hR : RelH C fid G H w) (hρ : OpdRel C fid vars G w ev ρ) {s d : TypeId} {x : Operand} (ho : o.op = .convert s d x) (hc : C.op0 vars pos o.op = some aop) (he : step ev H low aop = some (v, H', low')) :
    Did C fid G H w low ((execOp ρ o).run C.P w) v H' low' := by
  rw [ho] at hc
  simp only [Ctx.op0] at hc
  split at hc
  · rename_i k0 k ax h1 h2 h3
    simp only [Option.some.injEq] at hc; subst hc
    have hv := hρ x ax h3
    simp only [step] at he
    split at he
    · rename_i k' n e
      simp only [Option.some.injEq, Prod.mk.injEq] at he
      obtain ⟨rfl, rfl, rfl⟩ := he
      rw [e] at hv
      exact .same hR (x := .int k (k.wrap n)) (by unfold execOp; rw [ho]; simp only [hv.intInv, convert, Sem.run_bind, run_underlying h1, run_underlying h2, Result.andThen_ok, Conv.intToInt, Sem.run_pure]) (.p _ _ (.int _ _))
    · cases he
  · cases hc

theorem s_mkIface (hR : RelH C fid G H w) (hρ : OpdRel C fid vars G w ev ρ) {t : TypeId} {x : Operand} (ho : o.op = .makeInterface t x) (hc : C.op0 vars pos o.op = some aop) (he : step ev H low aop = some (v, H', low')) :
    Did C fid G H w low ((execOp ρ o).run C.P w) v H' low' := by
  rw [ho] at hc
  simp only [Ctx.op0] at hc
  split at hc
  · cases hc
  · rename_i d ax hne h1 h2
    simp only [Option.some.injEq] at hc; subst hc
    have hv := hρ x ax h2
    simp only [step] at he
    split at he
    · rename_i v1 H1 low1 hf
      simp only [Option.some.injEq, Prod.mk.injEq] at he
      obtain ⟨rfl, rfl, rfl⟩ := he
      obtain ⟨G1, f1, k1⟩ := freezeV_sound hR hv hf
      refine Did.afterFreeze f1 (Did.same f1.rel (x := .iface t (ρ x)) ?_ (.iface _ _ _ k1))
      unfold execOp; rw [ho]
      simp only [Instr.makeInterface, Sem.run_bind, run_underlying h1, Result.andThen_ok]
      cases d <;> first | rfl | (exfalso; exact hne _ h1)
    · cases he
  · cases hc

theorem mapO_rel (hρ : OpdRel C fid vars G w ev ρ) : ∀ {xs : List Operand} {axs : List Opd}, mapO (C.opd vars) xs = some axs → VRels fid G w (axs.map ev) (xs.map ρ)
  | [], _, h => by simp only [mapO, Option.some.injEq] at h; subst h; exact .nil
  | x :: xs, _, h => by
    simp only [mapO] at h
    split at h
    · rename_i ax hx
      split at h
      · rename_i axs hxs
        simp only [Option.some.injEq] at h; subst h
        exact .cons _ _ _ _ (hρ x ax hx) (mapO_rel hρ hxs)
      · cases h
    · cases h

theorem s_mkFn (hC : CtxOk C fid) (hR : RelH C fid G H w) (hρ : OpdRel C fid vars G w ev ρ) {f : Fn} {a b : Array Operand} (ho : o.op = .makeFunc f a b) (hc : C.op0 vars pos o.op = some aop) (he : step ev H low aop = some (v, H', low')) :
    Did C fid G H w low ((execOp ρ o).run C.P w) v H' low' := by
  rw [ho] at hc
  cases f with
  | func f =>
    simp only [Ctx.op0] at hc
    split at hc
    · rename_i i a' b' h1 h2 h3
      simp only [Option.some.injEq] at hc; subst hc
      simp only [step, Option.some.injEq, Prod.mk.injEq] at he
      obtain ⟨rfl, rfl, rfl⟩ := he
      refine .same hR (x := .func (.func f) (a.map ρ) (b.map ρ)) (by unfold execOp; rw [ho]; rfl) ?_
      have := VRel.fn (fid := fid) i _ _ _ _ (mapO_rel hρ h2) (mapO_rel hρ h3)
      rw [hC.f f i h1] at this
      have e1 : a.map ρ = ⟨a.toList.map ρ⟩ := by rw [← Array.toList_map]
      have e2 : b.map ρ = ⟨b.toList.map ρ⟩ := by rw [← Array.toList_map]
      rw [e1, e2]; exact this
    · cases hc
  | _ => simp [Ctx.op0] at hc

theorem s_extract (hR : RelH C fid G H w) (hρ : OpdRel C fid vars G w ev ρ) {x : Operand} {i : Nat} (ho : o.op = .extract x i) (hc : C.op0 vars pos o.op = some aop) (he : step ev H low aop = some (v, H', low')) :
    Did C fid G H w low ((execOp ρ o).run C.P w) v H' low' := by
  rw [ho] at hc
  obtain ⟨ax, hx, rfl⟩ := Option.map_eq_some_iff.1 hc
  have hv := hρ x ax hx
  simp only [step] at he
  split at he
  · rename_i vs e
    obtain ⟨u, hu, he⟩ := Option.map_eq_some_iff.1 he
    simp only [Prod.mk.injEq] at he
    obtain ⟨rfl, rfl, rfl⟩ := he
    rw [e] at hv
    obtain ⟨vals, hx', hr⟩ := hv.tupInv
    obtain ⟨y, hy, hrel⟩ := hr.get hu
    exact .same hR (x := y) (by unfold execOp; rw [ho]; simp only [hx', Instr.extract, List.getElem?_toArray, hy, Sem.run_bind, Sem.run_pure, Result.andThen_ok]) hrel
  · cases he

theorem s_field (hR : RelH C fid G H w) (hρ : OpdRel C fid vars G w ev ρ) {s : TypeId} {x : Operand} {f : Nat} (ho : o.op = .field s x f) (hc : C.op0 vars pos o.op = some aop) (he : step ev H low aop = some (v, H', low')) :
    Did C fid G H w low ((execOp ρ o).run C.P w) v H' low' := by
  rw [ho] at hc
  simp only [Ctx.op0] at hc
  split at hc
  · rename_i fs ax h1 h2
    split at hc
    · rename_i fl h3
      obtain ⟨sh, h4, rfl⟩ := Option.map_eq_some_iff.1 hc
      have hv := hρ x ax h2
      simp only [step] at he
      split at he
      · rename_i vs e
        obtain ⟨u, hu, he⟩ := Option.map_eq_some_iff.1 he
        simp only [Prod.mk.injEq] at he
        obtain ⟨rfl, rfl, rfl⟩ := he
        rw [e] at hv
        obtain ⟨vals, hx', hr⟩ := hv.aggInv
        have hk := hr.readCells hu
        rcases shape_run h4 with ⟨n, rfl, ha, hs⟩ | ⟨rfl, ha⟩
        · refine .same hR (x := .agg ⟨(vals.drop fl.offset).take n⟩) ?_ hk.2
          unfold execOp; rw [ho]
          simp only [hx', Instr.field, Sem.run_bind, run_underlying h1, Result.andThen_ok, h3, asAgg, Sem.run_pure, part, ha, hs, if_true]
          congr 3
          apply Array.ext'
          simp
        · obtain ⟨y, hy, hrel⟩ := hk
          refine .same hR (x := y) ?_ hrel
          unfold execOp; rw [ho]
          simp only [hx', Instr.field, Sem.run_bind, run_underlying h1, Result.andThen_ok, h3, asAgg, Sem.run_pure, part, ha, Bool.false_eq_true, if_false, List.getElem?_toArray, hy]
      · cases he
    · cases hc
  · cases hc

theorem s_fieldAddr (hR : RelH C fid G H w) (hρ : OpdRel C fid vars G w ev ρ) {s : TypeId} {x : Operand} {f : Nat} (ho : o.op = .fieldAddr s x f) (hc : C.op0 vars pos o.op = some aop) (he : step ev H low aop = some (v, H', low')) :
    Did C fid G H w low ((execOp ρ o).run C.P w) v H' low' := by
  rw [ho] at hc
  simp only [Ctx.op0] at hc
  split at hc
  · rename_i fs ax h1 h2
    split at hc
    · rename_i fl h3
      split at hc
      · rename_i n h4
        split at hc
        · cases hc
        · rename_i hn
          simp only [Option.some.injEq] at hc; subst hc
          have hv := hρ x ax h2
          have hrun : ∀ a, ρ x = .pointer (some a) → (execOp ρ o).run C.P w = .ok (.value (.pointer (some (a.add fl.offset)))) w := by
            intro a ha
            simp only [Ctx.sizeOf, Option.map_eq_some_iff] at h4
            obtain ⟨i, hi, rfl⟩ := h4
            unfold execOp; rw [ho]
            simp only [ha, Instr.fieldAt, Sem.run_bind, run_underlying h1, Result.andThen_ok, h3, Instr.sureAddr, Sem.run_pure, fieldPlace, sizeOf, run_typeInfo (P := C.P) w hi, hn, if_false]
          simp only [step] at he
          split at he
          · rename_i l o' e
            simp only [Option.some.injEq, Prod.mk.injEq] at he
            obtain ⟨rfl, rfl, rfl⟩ := he
            rw [e] at hv
            obtain ⟨h0, hb, ht, hx'⟩ := hv.ptrInv
            refine .same hR (hrun _ hx') ?_
            rw [Addr.add_lit]; exact .ptr l _ h0 hb ht
          · rename_i l es i f' tag e
            simp only [Option.some.injEq, Prod.mk.injEq] at he
            obtain ⟨rfl, rfl, rfl⟩ := he
            rw [e] at hv
            obtain ⟨h0, a, hb, hle, ha, hx'⟩ := hv.eptrInv
            refine .same hR (hrun _ hx') (.eptr l es i _ tag h0 _ hb hle (fun ht => ?_))
            rw [ha ht, Addr.add_lit, Nat.add_assoc]
          · rename_i vs f' e
            simp only [Option.some.injEq, Prod.mk.injEq] at he
            obtain ⟨rfl, rfl, rfl⟩ := he
            rw [e] at hv
            obtain ⟨b, o', vals, hI, hc, hr, hx'⟩ := hv.pinInv
            refine .same hR (hrun _ hx') ?_
            rw [Addr.add_lit, Nat.add_assoc]
            exact .pin vs _ b o' vals hI hc hr
          · cases he
      · cases hc
    · cases hc
  · cases hc

theorem s_load (hR : RelH C fid G H w) (hρ : OpdRel C fid vars G w ev ρ) {t : TypeId} {a : Operand} (ho : o.op = .load t a) (hc : C.op0 vars pos o.op = some aop) (he : step ev H low aop = some (v, H', low')) :
    Did C fid G H w low ((execOp ρ o).run C.P w) v H' low' := by
  rw [ho] at hc
  simp only [Ctx.op0] at hc
  split at hc
  · rename_i sh ax h1 h2
    simp only [Option.some.injEq] at hc; subst hc
    simp only [step] at he
    obtain ⟨u, hu, he⟩ := Option.map_eq_some_iff.1 he
    simp only [Prod.mk.injEq] at he
    obtain ⟨rfl, rfl, rfl⟩ := he
    obtain ⟨y, hy, hrel⟩ := loadA_sound hR h1 (hρ a ax h2) hu
    exact .same hR (x := y) (by unfold execOp; rw [ho]; simp only [Sem.run_bind, hy, Result.andThen_ok, Sem.run_pure]) hrel
  · cases hc

theorem s_store (hR : RelH C fid G H w) (hρ : OpdRel C fid vars G w ev ρ) {t : TypeId} {a x : Operand} (ho : o.op = .store t a x) (hc : C.op0 vars pos o.op = some aop) (hlow : low ≤ H.length) (he : step ev H low aop = some (v, H', low')) :
    Did C fid G H w low ((execOp ρ o).run C.P w) v H' low' := by
  rw [ho] at hc
  simp only [Ctx.op0] at hc
  split at hc
  · rename_i n ax bx h1 h2 h3
    simp only [Option.some.injEq] at hc; subst hc
    simp only [step] at he
    obtain ⟨⟨H1, l⟩, hu, he⟩ := Option.map_eq_some_iff.1 he
    simp only [Prod.mk.injEq] at he
    obtain ⟨rfl, rfl, rfl⟩ := he
    obtain ⟨w1, G1, hrun, r1, e1, hl, hlen⟩ := storeA_sound hR h1 (hρ a ax h2) (hρ x bx h3) hu
    exact ⟨undef, w1, G1, .inr ⟨by unfold execOp; rw [ho]; simp only [Sem.run_bind, hrun, Result.andThen_ok, Sem.run_pure], rfl⟩, r1, fun m hm => e1.le (Nat.le_trans hm (Nat.min_le_right _ _)) (Nat.le_refl _), .undef _, Nat.min_le_left _ _, Nat.le_of_eq hlen.symm⟩
  · cases hc

theorem s_alloc (hR : RelH C fid G H w) {t : TypeId} (ho : o.op = .alloc t) (hc : C.op0 vars pos o.op = some aop) (he : step ev H low aop = some (v, H', low')) :
    Did C fid G H w low ((execOp ρ o).run C.P w) v H' low' := by
  rw [ho] at hc
  obtain ⟨z, hz, rfl⟩ := Option.map_eq_some_iff.1 hc
  simp only [step, Option.some.injEq, Prod.mk.injEq] at he
  obtain ⟨rfl, rfl, rfl⟩ := he
  unfold Ctx.zeroCells at hz
  split at hz
  · rename_i i hi
    split at hz
    · rename_i zv hzv
      split at hz
      · rename_i vs hvs
        split at hz
        · simp only [Option.some.injEq] at hz; subst hz
          refine .alloc hR 0 0 (x := .pointer (some ⟨w.heap.size, 0, none⟩)) (ob := .cells zv.cells t) ?_ ⟨rfl, rfl, zv.cells, t, alloc_new _ _, ?_⟩ (.ptr _ _ ⟨w.heap.size, 0, 0, false⟩ (upd_same _ _ _) rfl)
          · unfold execOp; rw [ho]
            simp only [Instr.alloc, zeroValue, Sem.run_bind, run_typeInfo (P := C.P) w hi, Result.andThen_ok, hzv, Sem.run_pure, newVar, newRow, run_newObj, World.alloc_eq]
          · exact PRels.toV (constVs_sound _ hvs)
        · cases hz
      · cases hz
    · cases hz
  · cases hz

theorem s_box (hR : RelH C fid G H w) (hρ : OpdRel C fid vars G w ev ρ) {t : TypeId} {x : Operand} (ho : o.op = .box t x) (hc : C.op0 vars pos o.op = some aop) (he : step ev H low aop = some (v, H', low')) :
    Did C fid G H w low ((execOp ρ o).run C.P w) v H' low' := by
  rw [ho] at hc
  obtain ⟨ax, hx, rfl⟩ := Option.map_eq_some_iff.1 hc
  simp only [step] at he
  split at he
  · rename_i hok
    simp only [Option.some.injEq, Prod.mk.injEq] at he
    obtain ⟨rfl, rfl, rfl⟩ := he
    have hv := hρ x ax hx
    refine .alloc hR 0 0 (x := .pointer (some ⟨w.heap.size, 0, none⟩)) (ob := .cells (ρ x).cells t) ?_ ⟨rfl, rfl, (ρ x).cells, t, alloc_new _ _, ?_⟩ (.ptr _ _ ⟨w.heap.size, 0, 0, false⟩ (upd_same _ _ _) rfl)
    · unfold execOp; rw [ho]
      simp only [Instr.box, Sem.run_bind, Sem.run_pure, Result.andThen_ok, newVar, newRow, run_newObj, World.alloc_eq]
    · exact (cells_rel hv hok).1.ext hR (Ext.push hR _ 0 0 0)
  · cases he

theorem s_mkMap (hR : RelH C fid G H w) {t : TypeId} {r : Option Operand} (ho : o.op = .makeMap t r) (hc : C.op0 vars pos o.op = some aop) (he : step ev H low aop = some (v, H', low')) :
    Did C fid G H w low ((execOp ρ o).run C.P w) v H' low' := by
  rw [ho] at hc
  cases r with
  | some _ => simp [Ctx.op0] at hc
  | none =>
    simp only [Ctx.op0, Option.some.injEq] at hc; subst hc
    simp only [step, Option.some.injEq, Prod.mk.injEq] at he
    obtain ⟨rfl, rfl, rfl⟩ := he
    refine .alloc hR 0 0 (x := .map (some w.heap.size)) (ob := .map #[] 0) ?_ ⟨rfl, rfl, #[], 0, alloc_new _ _, .nil, .nil⟩ (.map _ ⟨w.heap.size, 0, 0, false⟩ (upd_same _ _ _) rfl)
    unfold execOp; rw [ho]
    simp only [Instr.makeMap, Sem.run_bind, Sem.run_pure, Result.andThen_ok, run_newObj, World.alloc_eq, Option.map_none]

theorem natOf_inv {u : V} {n : Nat} (h : natOf u = some n) : ∃ k m, u = .int k m ∧ 0 ≤ m ∧ m.toNat = n := by
  unfold natOf at h
  split at h
  · split at h
    · simp only [Option.some.injEq] at h
      exact ⟨_, _, rfl, by assumption, h⟩
    · cases h
  · cases h

theorem s_indexS (hR : RelH C fid G H w) (hρ : OpdRel C fid vars G w ev ρ) {t : TypeId} {x i : Operand} (ho : o.op = .index t x i) (hc : C.op0 vars pos o.op = some aop) (he : step ev H low aop = some (v, H', low')) :
    Did C fid G H w low ((execOp ρ o).run C.P w) v H' low' := by
  rw [ho] at hc
  simp only [Ctx.op0] at hc
  split at hc
  · rename_i ax bx h1 h2 h3
    simp only [Option.some.injEq] at hc; subst hc
    simp only [step] at he
    split at he
    · rename_i s n e1 e2
      obtain ⟨c, hcc, he⟩ := Option.map_eq_some_iff.1 he
      simp only [Prod.mk.injEq] at he
      obtain ⟨rfl, rfl, rfl⟩ := he
      obtain ⟨k, m, e3, hm, hn⟩ := natOf_inv e2
      have hx := hρ x ax h2
      have hi := hρ i bx h3
      rw [e1] at hx; rw [e3] at hi
      refine .same hR (x := .int .u8 c.toNat) ?_ (.p _ _ (.int _ _))
      unfold execOp; rw [ho]
      have hget : (⟨⟨s⟩⟩ : ByteArray)[m.toNat]? = some c := by
        rw [hn]
        obtain ⟨hlt, hq⟩ := List.getElem?_eq_some_iff.1 hcc
        have : n < (⟨⟨s⟩⟩ : ByteArray).size := hlt
        rw [getElem?_pos (c := (⟨⟨s⟩⟩ : ByteArray)) (i := n) (h := this)]
        congr 1
      simp only [hx.strInv, hi.intInv, Instr.index, asIntOf, Sem.run_bind, Sem.run_pure, Result.andThen_ok, run_underlying h1, hm, if_true, hget]
    · cases he
  · cases hc

end Go.Abs
/- Comparisons, arithmetic, slices of strings and lists, lengths. -/
namespace Go.Abs
open Go
variable {C : Ctx} {fid : Nat → Nat} {w w' : World} {G G' : Gh} {H : Heap}
variable {vars : List Nat} {ev : Opd → V} {ρ : Operand → Value} {low low' : Nat} {v : V} {H' : Heap} {pos : String} {aop : AOp} {o : Oper}

theorem bytes_beq (s t : List UInt8) : ((⟨⟨s⟩⟩ : ByteArray).toList == (⟨⟨t⟩⟩ : ByteArray).toList) = (s == t) := by
  rw [ByteArray.toList_eq, ByteArray.toList_eq]

theorem binOp_run {op : BinOp} {t : TypeId} {a b u : V} {x y : Value} (ha : VRel fid G w a x) (hb : VRel fid G w b y) (hu : binA op a b = some u) :
    ∃ z, (binOp op t x y).run C.P w = .ok z w ∧ VRel fid G w u z ∧ ∀ (px py : Operand), eqGuard op t px py x y = pure () := by
  unfold binA at hu
  split at hu
  · rename_i k a' k' b'
    split at hu
    · rename_i hc
      simp only [Option.some.injEq] at hu; subst hu
      rw [ha.intInv, hb.intInv]
      refine ⟨.int k (k.wrap (a' * 2 ^ b'.toNat)), ?_, .p _ _ (.int _ _), fun _ _ => rfl⟩
      simp only [binOp, Op.shift, Int.not_lt.2 hc.1, if_false, Nat.min_eq_left hc.2, Sem.run_pure]
    · cases hu
  · rename_i k a' k' b'
    split at hu
    · rename_i hc
      simp only [Option.some.injEq] at hu; subst hu
      rw [ha.intInv, hb.intInv]
      refine ⟨.int k (a' / 2 ^ b'.toNat), ?_, .p _ _ (.int _ _), fun _ _ => rfl⟩
      have h2 : (0 : Int) ≤ 2 ^ b'.toNat := Int.pow_nonneg (by decide)
      simp only [binOp, Op.shift, Int.not_lt.2 hc.1, if_false, Nat.min_eq_left hc.2, Sem.run_pure, Int.fdiv_eq_ediv_of_nonneg _ h2]
    · cases hu
  · rename_i k a' k' b' hs1 hs2
    split at hu
    · cases hu
    · rename_i hk
      have hk : k = k' := by simpa using hk
      subst hk
      rw [ha.intInv, hb.intInv]
      have hg : ∀ (px py : Operand), eqGuard op t px py (.int k a') (.int k b') = pure () := fun _ _ => by cases op <;> rfl
      cases op <;> dsimp only at hu <;>
        first
        | (cases hu; done)
        | (simp only [Option.some.injEq] at hu; subst hu
           refine ⟨_, ?_, .p _ _ (.int _ _), hg⟩
           simp only [binOp, ne_eq, not_true, if_false, Op.intArith, Op.intBits, Sem.run_pure]; done)
        | (simp only [Option.some.injEq] at hu; subst hu
           refine ⟨_, ?_, .p _ _ (.bool _), hg⟩
           simp only [binOp, ne_eq, not_true, if_false, Op.intCmp, Sem.run_pure]; done)
        | (split at hu
           · cases hu
           · rename_i hz
             simp only [Option.some.injEq] at hu; subst hu
             refine ⟨_, ?_, .p _ _ (.int _ _), hg⟩
             simp only [binOp, ne_eq, not_true, if_false, Op.intDiv, hz, Sem.run_pure])
  · rename_i a' b'
    split at hu
    · rename_i hc
      simp only [Option.some.injEq] at hu; subst hu
      rw [ha.strInv, hb.strInv]
      refine ⟨.string ⟨⟨a' ++ b'⟩⟩, ?_, .p _ _ (.str _), fun _ _ => rfl⟩
      have hsz : ¬ ((((⟨⟨a'⟩⟩ : ByteArray).size + (⟨⟨b'⟩⟩ : ByteArray).size : Nat) : Int) > IntKind.i64.max) := by
        rw [IntKind.max_i64]
        have e1 : (⟨⟨a'⟩⟩ : ByteArray).size = a'.length := rfl
        have e2 : (⟨⟨b'⟩⟩ : ByteArray).size = b'.length := rfl
        rw [e1, e2]; omega
      have hcat : (⟨⟨a'⟩⟩ : ByteArray) ++ (⟨⟨b'⟩⟩ : ByteArray) = ⟨⟨a' ++ b'⟩⟩ := by
        apply ByteArray.ext
        rw [ByteArray.data_append]
        simp
      simp only [binOp, Op.stringOp, hsz, if_false, hcat, Sem.run_pure]
    · cases hu
  · rename_i a' b'
    simp only [Option.some.injEq] at hu; subst hu
    rw [ha.strInv, hb.strInv]
    refine ⟨.bool (a' == b'), ?_, .p _ _ (.bool _), fun _ _ => rfl⟩
    simp only [binOp, Op.stringOp, bytes_beq, Sem.run_pure]
  · rename_i a' b'
    simp only [Option.some.injEq] at hu; subst hu
    rw [ha.strInv, hb.strInv]
    refine ⟨.bool (a' != b'), ?_, .p _ _ (.bool _), fun _ _ => rfl⟩
    simp only [binOp, Op.stringOp, bytes_beq, Sem.run_pure, bne]
  · cases hu

theorem VRel.nilpInv {x : Value} (h : VRel fid G w .nilp x) : x = .pointer none := by cases h with | p _ _ h => cases h; rfl
theorem VRel.nil0Inv {x : Value} (h : VRel fid G w .nil0 x) : x = .slice none 0 0 := by cases h with | p _ _ h => cases h; rfl
theorem VRel.empInv {x : Value} (h : VRel fid G w .emp x) : ∃ a, x = .slice (some a) 0 0 := by cases h with | p _ _ h => cases h; exact ⟨_, rfl⟩
theorem VRel.nilfInv {x : Value} (h : VRel fid G w .nilf x) : x = .nilFunc := by cases h with | p _ _ h => cases h; rfl
theorem VRel.niliInv {x : Value} (h : VRel fid G w .nili x) : x = .nilIface := by cases h with | p _ _ h => cases h; rfl
theorem VRel.nilmInv {x : Value} (h : VRel fid G w .nilm x) : x = .map none := by cases h with | p _ _ h => cases h; rfl
theorem VRel.ifaceInv {x : Value} {t : Nat} {v : V} (h : VRel fid G w (.iface t v) x) : ∃ y, x = .iface t y ∧ VRel fid G w v y := by
  cases h with
  | p _ _ h => cases h with | iface _ _ y h => exact ⟨y, rfl, .p _ _ h⟩
  | iface _ _ y h => exact ⟨y, rfl, h⟩
theorem VRel.listInv {x : Value} {es : Nat} {ds : List V} (h : VRel fid G w (.list es ds) x) :
    ∃ a cap, x = .slice (some a) ds.length cap ∧ ds.length ≤ cap ∧ (ds = [] ∨ ∃ b o vals, a = ⟨b, o, none⟩ ∧ G.I b ∧ CellsAt w b o vals ∧ (∀ d ∈ ds, (cellsV d).length = es) ∧ PRels w G.I (ds.flatMap cellsV) vals) := by
  cases h with
  | p _ _ h => cases h with
    | list0 _ a cap => exact ⟨a, cap, rfl, Nat.zero_le _, .inl rfl⟩
    | list _ _ b o cap vals hI hc hu hr hl => exact ⟨_, cap, rfl, hl, .inr ⟨b, o, vals, rfl, hI, hc, hu, hr⟩⟩

def kindOk : Nat → TypeDesc → Prop
  | 0, d => ∃ t', d = .pointer t'
  | 1, d => ∃ t', d = .slice t'
  | 2, d => ∃ p r b, d = .func p r b
  | 3, d => ∃ m, d = .interface m
  | 4, d => d = .bool
  | _, _ => False

theorem equal_run {t : TypeId} {d : TypeDesc} (hd : C.P.underlying t = some d) {kind : Nat} {a b : V} {e : Bool} {x y : Value} (ha : VRel fid G w a x) (hb : VRel fid G w b y) (hu : nilEqA kind a b = some e)
    (hk : kindOk kind d) :
    (Op.equal t x y).run C.P w = .ok e w := by
  show (Op.equalIn (9999 + 1) t x y).run C.P w = .ok e w
  generalize 9999 = depth
  unfold nilEqA at hu
  split at hu
  · simp only [Option.some.injEq] at hu; subst hu
    obtain ⟨t', rfl⟩ := hk
    rw [ha.nilpInv, hb.nilpInv]
    simp [Op.equalIn, run_underlying hd]
  · simp only [Option.some.injEq] at hu; subst hu
    obtain ⟨t', rfl⟩ := hk
    obtain ⟨h0, -, -, rfl⟩ := ha.ptrInv
    rw [hb.nilpInv]
    simp [Op.equalIn, run_underlying hd]
  · simp only [Option.some.injEq] at hu; subst hu
    obtain ⟨t', rfl⟩ := hk
    obtain ⟨h0, -, -, rfl⟩ := hb.ptrInv
    rw [ha.nilpInv]
    simp [Op.equalIn, run_underlying hd]
  · simp only [Option.some.injEq] at hu; subst hu
    obtain ⟨t', rfl⟩ := hk
    rw [ha.nil0Inv, hb.nil0Inv]
    simp [Op.equalIn, run_underlying hd]
  · simp only [Option.some.injEq] at hu; subst hu
    obtain ⟨t', rfl⟩ := hk
    obtain ⟨_, rfl⟩ := ha.empInv
    rw [hb.nil0Inv]
    simp [Op.equalIn, run_underlying hd]
  · simp only [Option.some.injEq] at hu; subst hu
    obtain ⟨t', rfl⟩ := hk
    obtain ⟨_, _, rfl, -⟩ := ha.listInv
    rw [hb.nil0Inv]
    simp [Op.equalIn, run_underlying hd]
  · simp only [Option.some.injEq] at hu; subst hu
    obtain ⟨t', rfl⟩ := hk
    obtain ⟨_, _, _, _, -, -, -, rfl⟩ := ha.srefInv
    rw [hb.nil0Inv]
    simp [Op.equalIn, run_underlying hd]
  · simp only [Option.some.injEq] at hu; subst hu
    obtain ⟨p, r, b', rfl⟩ := hk
    rw [ha.nilfInv, hb.nilfInv]
    simp [Op.equalIn, run_underlying hd]
  · simp only [Option.some.injEq] at hu; subst hu
    obtain ⟨p, r, b', rfl⟩ := hk
    obtain ⟨_, _, -, -, rfl⟩ := ha.fnInv
    rw [hb.nilfInv]
    simp [Op.equalIn, run_underlying hd]
  · simp only [Option.some.injEq] at hu; subst hu
    obtain ⟨m, rfl⟩ := hk
    rw [ha.niliInv, hb.niliInv]
    simp [Op.equalIn, run_underlying hd]
  · simp only [Option.some.injEq] at hu; subst hu
    obtain ⟨m, rfl⟩ := hk
    obtain ⟨_, rfl, -⟩ := ha.ifaceInv
    rw [hb.niliInv]
    simp [Op.equalIn, run_underlying hd]
  · simp only [Option.some.injEq] at hu; subst hu
    subst hk
    rw [ha.boolInv, hb.boolInv]
    simp [Op.equalIn, run_underlying hd]
  · cases hu

theorem binOp_eql_run {t : TypeId} {kind : Nat} {a b : V} {e : Bool} {x y : Value} (ha : VRel fid G w a x) (hb : VRel fid G w b y) (hu : nilEqA kind a b = some e) (neg : Bool)
    (hq : (Op.equal t x y).run C.P w = .ok e w) :
    (binOp (if neg then .neq else .eql) t x y).run C.P w = .ok (.bool (if neg then !e else e)) w := by
  have key : binOp (if neg then .neq else .eql) t x y = (do let q ← Op.equal t x y; pure (.bool (if neg then !q else q))) := by
    unfold nilEqA at hu
    split at hu
    · rw [ha.nilpInv, hb.nilpInv]; cases neg <;> rfl
    · obtain ⟨h0, -, -, rfl⟩ := ha.ptrInv; rw [hb.nilpInv]; cases neg <;> rfl
    · obtain ⟨h0, -, -, rfl⟩ := hb.ptrInv; rw [ha.nilpInv]; cases neg <;> rfl
    · rw [ha.nil0Inv, hb.nil0Inv]; cases neg <;> rfl
    · obtain ⟨_, rfl⟩ := ha.empInv; rw [hb.nil0Inv]; cases neg <;> rfl
    · obtain ⟨_, _, rfl, -⟩ := ha.listInv; rw [hb.nil0Inv]; cases neg <;> rfl
    · obtain ⟨_, _, _, _, -, -, -, rfl⟩ := ha.srefInv; rw [hb.nil0Inv]; cases neg <;> rfl
    · rw [ha.nilfInv, hb.nilfInv]; cases neg <;> rfl
    · obtain ⟨_, _, -, -, rfl⟩ := ha.fnInv; rw [hb.nilfInv]; cases neg <;> rfl
    · rw [ha.niliInv, hb.niliInv]; cases neg <;> rfl
    · obtain ⟨_, rfl, -⟩ := ha.ifaceInv; rw [hb.niliInv]; cases neg <;> rfl
    · rw [ha.boolInv, hb.boolInv]; cases neg <;> rfl
    · cases hu
  rw [key, Sem.run_bind, hq]
  cases neg <;> rfl

theorem eqGuard_nilEq {op : BinOp} {t : TypeId} {kind : Nat} {a b : V} {e : Bool} {x y : Value} {px py : Operand} (ha : VRel fid G w a x) (hb : VRel fid G w b y) (hu : nilEqA kind a b = some e)
    (hc : kind = 3 → ∃ c, py = .const c) : eqGuard op t px py x y = pure () := by
  unfold nilEqA at hu
  split at hu
  · rw [ha.nilpInv, hb.nilpInv]; cases op <;> rfl
  · obtain ⟨h0, -, -, rfl⟩ := ha.ptrInv; rw [hb.nilpInv]; cases op <;> rfl
  · obtain ⟨h0, -, -, rfl⟩ := hb.ptrInv; rw [ha.nilpInv]; cases op <;> rfl
  · rw [ha.nil0Inv, hb.nil0Inv]; cases op <;> rfl
  · obtain ⟨_, rfl⟩ := ha.empInv; rw [hb.nil0Inv]; cases op <;> rfl
  · obtain ⟨_, _, rfl, -⟩ := ha.listInv; rw [hb.nil0Inv]; cases op <;> rfl
  · obtain ⟨_, _, _, _, -, -, -, rfl⟩ := ha.srefInv; rw [hb.nil0Inv]; cases op <;> rfl
  · rw [ha.nilfInv, hb.nilfInv]; cases op <;> rfl
  · obtain ⟨_, _, -, -, rfl⟩ := ha.fnInv; rw [hb.nilfInv]; cases op <;> rfl
  · rw [ha.niliInv, hb.niliInv]
    obtain ⟨c, rfl⟩ := hc rfl
    unfold eqGuard
    cases op <;> simp
  · obtain ⟨_, rfl, -⟩ := ha.ifaceInv; rw [hb.niliInv]; cases op <;> rfl
  · rw [ha.boolInv, hb.boolInv]; cases op <;> rfl
  · cases hu

theorem opd_nilConst {y : Operand} {ay : Opd} (h : C.opd vars y = some ay) (hn : Ctx.isNilConst ay = true) : ∃ c, y = .const c := by
  cases y with
  | const c => exact ⟨c, rfl⟩
  | tmp t =>
    simp only [Ctx.opd, Option.some.injEq] at h; subst h
    split at hn <;> simp [Ctx.isNilConst] at hn
  | func f =>
    simp only [Ctx.opd, Option.map_eq_some_iff] at h
    obtain ⟨_, -, rfl⟩ := h
    simp [Ctx.isNilConst] at hn
  | global g => simp [Ctx.opd] at h

theorem eqK_run {t : TypeId} {k : Nat} (hk : C.kindT t = some k) {a b : V} {x y : Value} {e : Bool} (ha : VRel fid G w a x) (hb : VRel fid G w b y) (he : eqK k a b = some e) (d : Nat) :
    (Op.equalIn (d + 1) t x y).run C.P w = .ok e w := by
  unfold Ctx.kindT at hk
  unfold eqK at he
  split at he
  · split at he
    · rename_i hkk
      simp only [Option.some.injEq] at he; subst he; subst hkk
      rw [ha.intInv, hb.intInv]
      split at hk <;> rename_i hd <;> simp at hk
      exact run_equalIn_int w d t _ _ _ _ hd
    · cases he
  · simp only [Option.some.injEq] at he; subst he
    rw [ha.strInv, hb.strInv]
    split at hk <;> rename_i hd <;> simp at hk
    rw [run_equalIn_string w d t _ _ hd, bytes_beq]
  · simp only [Option.some.injEq] at he; subst he
    rw [ha.boolInv, hb.boolInv]
    split at hk <;> rename_i hd <;> simp at hk
    exact run_equalIn_bool' w d t _ _ hd
  · cases he

theorem kindT_plain {t : TypeId} {k : Nat} (hk : C.kindT t = some k) (w : World) : (isAgg t).run C.P w = .ok false w := by
  unfold Ctx.kindT at hk
  unfold isAgg
  split at hk <;> rename_i hd <;> first | (cases hk; done) | (rw [Sem.run_bind, run_underlying hd]; rfl)

theorem eqFields_run {xs ys : List V} {vx vy : List Value} (hx : VRels fid G w xs vx) (hy : VRels fid G w ys vy) (d : Nat) : ∀ (fs : List Field) (i : Nat) (ks : List Nat) (e : Bool), C.eqKinds i fs = some ks →
    eqCells ks (xs.drop i) (ys.drop i) = some e → (Op.eqFields (d + 1) ⟨vx⟩ ⟨vy⟩ fs).run C.P w = .ok e w
  | [], i, ks, e, hk, he => by
    simp only [Ctx.eqKinds, Option.some.injEq] at hk; subst hk
    unfold eqCells at he
    split at he
    · simp only [Option.some.injEq] at he; subst he; rfl
    · simp_all
    · cases he
  | f :: fs, i, ks, e, hk, he => by
    simp only [Ctx.eqKinds] at hk
    split at hk
    · rename_i k hkf
      split at hk
      · rename_i hc
        simp only [Bool.and_eq_true, bne_iff_ne, ne_eq, beq_iff_eq] at hc
        obtain ⟨ks', hks, rfl⟩ := Option.map_eq_some_iff.1 hk
        cases hxd : xs.drop i with
        | nil => rw [hxd] at he; simp [eqCells] at he
        | cons a xr =>
          cases hyd : ys.drop i with
          | nil => rw [hxd, hyd] at he; simp [eqCells] at he
          | cons b yr =>
            rw [hxd, hyd] at he
            simp only [eqCells] at he
            have ax : xs[i]? = some a := by have := congrArg (·[0]?) hxd; simpa using this
            have ay : ys[i]? = some b := by have := congrArg (·[0]?) hyd; simpa using this
            have xr' : xs.drop (i + 1) = xr := by have := congrArg (List.drop 1) hxd; simpa [List.drop_drop] using this
            have yr' : ys.drop (i + 1) = yr := by have := congrArg (List.drop 1) hyd; simpa [List.drop_drop] using this
            obtain ⟨va, hva, ra⟩ := hx.get ax
            obtain ⟨vb, hvb, rb⟩ := hy.get ay
            split at he
            · rename_i e1 he1
              split at he
              · rename_i e2 he2
                simp only [Option.some.injEq] at he; subst he
                rw [← xr', ← yr'] at he2
                have ih := eqFields_run hx hy d fs (i + 1) ks' e2 hks he2
                have hp : ∀ (l : List Value) (z : Value), l[i]? = some z → (part f.type ⟨l⟩ f.offset).run C.P w = .ok z w := by
                  intro l z hz
                  unfold part
                  simp only [Sem.run_bind, kindT_plain hkf, Result.andThen_ok, Bool.false_eq_true, if_false, hc.2, List.getElem?_toArray, hz, Sem.run_pure]
                simp only [Op.eqFields, hc.1, ne_eq, not_false_eq_true, if_true, Sem.run_bind, hp vx va hva, hp vy vb hvb, Result.andThen_ok, eqK_run hkf ra rb he1 d, Sem.run_ite, Sem.run_pure, ih]
                cases e1 <;> simp
              · cases he
            · cases he
      · cases hk
    · cases hk

theorem eqCells_run {t : TypeId} {fs : Array Field} {ks : List Nat} (hd : C.P.underlying t = some (.struct fs)) (hs : C.structEq t = some ks) {xs ys : List V} {vx vy : List Value} (hx : VRels fid G w xs vx) (hy : VRels fid G w ys vy)
    {e : Bool} (he : eqCells ks xs ys = some e) (neg : Bool) (px py : Operand) :
    (do eqGuard (if neg then .neq else .eql) t px py (.agg ⟨vx⟩) (.agg ⟨vy⟩); binOp (if neg then .neq else .eql) t (.agg ⟨vx⟩) (.agg ⟨vy⟩)).run C.P w = .ok (.bool (if neg then !e else e)) w := by
  unfold Ctx.structEq at hs
  rw [hd] at hs
  simp only at hs
  split at hs
  · rename_i hc
    simp only [Bool.and_eq_true, Bool.not_eq_true'] at hc
    have hf : C.P.fieldsOf t = fs := by unfold Program.fieldsOf; rw [hd]
    have key : (Op.equalIn 10000 t (.agg ⟨vx⟩) (.agg ⟨vy⟩)).run C.P w = .ok e w := by
      rw [run_equalIn_struct (P := C.P) w 9999 t _ _ (by rw [hf]; exact hd) hc.1, hf]
      exact eqFields_run hx hy 9998 fs.toList 0 ks e hs (by simpa using he)
    rw [Sem.run_bind, run_eqGuard_agg w _ t px py _ _ hc.2]
    cases neg
    · simp only [Bool.false_eq_true, if_false, Result.andThen_ok, run_eql_struct, key]
    · simp only [if_true, Result.andThen_ok, run_neq_struct, key]
  · cases hs

theorem s_bin (hR : RelH C fid G H w) (hρ : OpdRel C fid vars G w ev ρ) {bop : BinOp} {t t' : TypeId} {x y : Operand} (ho : o.op = .binOp bop t x y t') (hc : C.op0 vars pos o.op = some aop) (he : step ev H low aop = some (v, H', low')) :
    Did C fid G H w low ((execOp ρ o).run C.P w) v H' low' := by
  rw [ho] at hc
  simp only [Ctx.op0] at hc
  split at hc
  · rename_i ax ay h1 h2
    have hx := hρ x ax h1
    have hy := hρ y ay h2
    have plain : ∀ {a b : BinOp}, step ev H low (.bin bop ax ay) = some (v, H', low') → a = b → Did C fid G H w low ((execOp ρ o).run C.P w) v H' low' := by
      intro _ _ he _
      simp only [step] at he
      obtain ⟨u, hu, he⟩ := Option.map_eq_some_iff.1 he
      simp only [Prod.mk.injEq] at he
      obtain ⟨rfl, rfl, rfl⟩ := he
      obtain ⟨z, hz, hrel, hg⟩ := binOp_run (C := C) (t := t) hx hy hu
      refine .same hR (x := z) ?_ hrel
      unfold execOp; rw [ho]
      simp only [hg, Sem.run_bind, Sem.run_pure, Result.andThen_ok, hz]
    have agg : ∀ (neg : Bool) {fs : Array Field}, bop = (if neg then .neq else .eql) → C.P.underlying t = some (.struct fs) → (C.structEq t).map (fun n => AOp.eqAgg neg n ax ay) = some aop → Did C fid G H w low ((execOp ρ o).run C.P w) v H' low' := by
      intro neg fs hop hd hm
      obtain ⟨n, hn, rfl⟩ := Option.map_eq_some_iff.1 hm
      simp only [step] at he
      split at he
      · rename_i xs ys e1 e2
        obtain ⟨e, hee, he⟩ := Option.map_eq_some_iff.1 he
        simp only [Prod.mk.injEq] at he
        obtain ⟨rfl, rfl, rfl⟩ := he
        rw [e1] at hx; rw [e2] at hy
        obtain ⟨vx, hx', hrx⟩ := hx.aggInv
        obtain ⟨vy, hy', hry⟩ := hy.aggInv
        have key := eqCells_run hd hn hrx hry hee neg x y
        rw [← hop] at key
        refine .same hR (x := .bool (if neg then !e else e)) ?_ (.p _ _ (.bool _))
        unfold execOp; rw [ho]
        simp only [hx', hy']
        rw [Sem.run_bind, key]; rfl
      · cases he
    have kinds : ∀ (neg : Bool) {d : TypeDesc}, bop = (if neg then .neq else .eql) → C.P.underlying t = some d → Ctx.nilKind d ax ay (.bin bop ax ay) neg = some aop → Did C fid G H w low ((execOp ρ o).run C.P w) v H' low' := by
      intro neg d hop hd hk
      have go : ∀ kind, aop = .nilEq kind neg ax ay → kindOk kind d →
          (kind = 3 → ∃ c, y = .const c) → Did C fid G H w low ((execOp ρ o).run C.P w) v H' low' := by
        intro kind ha hkk hcc
        subst ha
        simp only [step] at he
        obtain ⟨e, hee, he⟩ := Option.map_eq_some_iff.1 he
        simp only [Prod.mk.injEq] at he
        obtain ⟨rfl, rfl, rfl⟩ := he
        have hq := equal_run (t := t) hd hx hy hee hkk
        have hb := binOp_eql_run hx hy hee neg hq
        rw [← hop] at hb
        refine .same hR (x := .bool (if neg then !e else e)) ?_ (.p _ _ (.bool _))
        unfold execOp; rw [ho]
        simp only [eqGuard_nilEq hx hy hee hcc, Sem.run_bind, Sem.run_pure, Result.andThen_ok, hb]
      unfold Ctx.nilKind at hk
      split at hk
      · simp only [Option.some.injEq] at hk; subst hk; exact plain (a := .add) (b := .add) he rfl
      · simp only [Option.some.injEq] at hk; subst hk; exact plain (a := .add) (b := .add) he rfl
      · simp only [Option.some.injEq] at hk; exact go 0 hk.symm ⟨_, rfl⟩ (fun h => by cases h)
      · simp only [Option.some.injEq] at hk; exact go 1 hk.symm ⟨_, rfl⟩ (fun h => by cases h)
      · simp only [Option.some.injEq] at hk; exact go 2 hk.symm ⟨_, _, _, rfl⟩ (fun h => by cases h)
      · split at hk
        · rename_i hcst
          simp only [Option.some.injEq] at hk; exact go 3 hk.symm ⟨_, rfl⟩ (fun _ => opd_nilConst h2 hcst)
        · cases hk
      · simp only [Option.some.injEq] at hk; exact go 4 hk.symm rfl (fun h => by cases h)
      · cases hk
    split at hc
    · rename_i hd; exact agg false rfl hd hc
    · rename_i hd; exact agg true rfl hd hc
    · rename_i hd; exact kinds false rfl hd hc
    · rename_i hd; exact kinds true rfl hd hc
    · cases hc
    · cases hc
    · simp only [Option.some.injEq] at hc; subst hc; exact plain (a := .add) (b := .add) he rfl
  · cases hc

end Go.Abs
/- Slicing, indexing, lengths, min and max. -/
namespace Go.Abs
open Go
variable {C : Ctx} {fid : Nat → Nat} {w w' : World} {G G' : Gh} {H : Heap}
variable {vars : List Nat} {ev : Opd → V} {ρ : Operand → Value} {low low' : Nat} {v : V} {H' : Heap} {pos : String} {aop : AOp} {o : Oper}

theorem sliceBound_run {x : Value} {k : IntKind} {m : Int} {n y : Nat} {code : BoundsCode} (hx : x = .int k m) (h0 : 0 ≤ m) (hn : m.toNat = n) (hy : n ≤ y) :
    (Instr.sliceBound x y code).run C.P w = .ok n w := by
  subst hx
  have : 0 ≤ m ∧ m ≤ (y : Int) := by omega
  simp only [Instr.sliceBound, asIntOf, Sem.run_bind, Sem.run_pure, Result.andThen_ok, this, and_self, if_true, hn]

/-- A bound that stands, or that is not written. -/
theorem bnd_inv (hρ : OpdRel C fid vars G w ev ρ) {x : Option Operand} {ax : Option Opd} (hx : C.opdO vars x = some ax) {d n : Nat} (h : bnd ev d ax = some n) :
    (x = none ∧ ax = none ∧ n = d) ∨ ∃ y k m, x = some y ∧ ρ y = .int k m ∧ 0 ≤ m ∧ m.toNat = n := by
  cases x with
  | none =>
    simp only [Ctx.opdO, Option.some.injEq] at hx; subst hx
    simp only [bnd, Option.some.injEq] at h
    exact .inl ⟨rfl, rfl, h.symm⟩
  | some y =>
    simp only [Ctx.opdO, Option.map_eq_some_iff] at hx
    obtain ⟨ay, hy, rfl⟩ := hx
    simp only [bnd] at h
    obtain ⟨k, m, e, hm, hn⟩ := natOf_inv h
    have := hρ y ay hy
    rw [e] at this
    exact .inr ⟨y, k, m, rfl, this.intInv, hm, hn⟩

/-- The bounds of a slice without a third index. -/
theorem sliceBounds_run (hρ : OpdRel C fid vars G w ev ρ) {lo hi : Option Operand} {alo ahi : Option Opd} (hlo : C.opdO vars lo = some alo) (hhi : C.opdO vars hi = some ahi) {isS : Bool} {len cap a b : Nat}
    (ha : bnd ev 0 alo = some a) (hb : bnd ev len ahi = some b) (h1 : a ≤ b) (h2 : b ≤ len) (h3 : len ≤ cap) :
    (Instr.sliceBounds isS len cap (lo.map ρ) (hi.map ρ) none).run C.P w = .ok (a, b, cap) w := by
  unfold Instr.sliceBounds
  have hB : ∀ (z : Nat × Nat × Nat), True := fun _ => trivial
  rcases bnd_inv hρ hhi hb with ⟨rfl, -, rfl⟩ | ⟨y, k, m, rfl, ey, hm, hn⟩
  · rcases bnd_inv hρ hlo ha with ⟨rfl, -, rfl⟩ | ⟨y', k', m', rfl, ey', hm', hn'⟩
    · simp only [Option.map_none, Sem.run_bind, Sem.run_pure, Result.andThen_ok]
    · simp only [Option.map_none, Option.map_some, Sem.run_bind, Sem.run_pure, Result.andThen_ok, sliceBound_run (C := C) ey' hm' hn' h1]
  · rcases bnd_inv hρ hlo ha with ⟨rfl, -, rfl⟩ | ⟨y', k', m', rfl, ey', hm', hn'⟩
    · simp only [Option.map_none, Option.map_some, Sem.run_bind, Sem.run_pure, Result.andThen_ok, sliceBound_run (C := C) ey hm hn (Nat.le_trans h2 h3)]
    · simp only [Option.map_some, Sem.run_bind, Sem.run_pure, Result.andThen_ok, sliceBound_run (C := C) ey hm hn (Nat.le_trans h2 h3), sliceBound_run (C := C) ey' hm' hn' h1]

/-- 's[lo:0:0]'. -/
theorem sliceBounds0_run (hρ : OpdRel C fid vars G w ev ρ) {lo hi mx : Option Operand} {alo ahi : Option Opd} {m : Opd} (hlo : C.opdO vars lo = some alo) (hhi : C.opdO vars hi = some ahi) (hmx : C.opdO vars mx = some (some m))
    {len cap a d : Nat} (ha : bnd ev 0 alo = some a) (hb : bnd ev d ahi = some 0) (hi0 : ahi ≠ none) (h1 : a ≤ 0) (hm : natOf (ev m) = some 0) :
    (Instr.sliceBounds true len cap (lo.map ρ) (hi.map ρ) (mx.map ρ)).run C.P w = .ok (0, 0, 0) w := by
  unfold Instr.sliceBounds
  obtain rfl : a = 0 := by omega
  rcases bnd_inv hρ hmx (d := 0) (show bnd ev 0 (some m) = some 0 from hm) with ⟨-, q, -⟩ | ⟨z, kz, mz, rfl, ez, hmz, hnz⟩
  · cases q
  · rcases bnd_inv hρ hhi hb with ⟨-, q, -⟩ | ⟨y, k, m', rfl, ey, hm', hn'⟩
    · exact absurd q hi0
    · rcases bnd_inv hρ hlo ha with ⟨rfl, -, -⟩ | ⟨y', k', m'', rfl, ey', hm'', hn''⟩
      · simp only [Option.map_none, Option.map_some, Sem.run_bind, Sem.run_pure, Result.andThen_ok, sliceBound_run (C := C) ez hmz hnz (Nat.zero_le _), sliceBound_run (C := C) ey hm' hn' (Nat.zero_le _)]
      · simp only [Option.map_some, Sem.run_bind, Sem.run_pure, Result.andThen_ok, sliceBound_run (C := C) ez hmz hnz (Nat.zero_le _), sliceBound_run (C := C) ey hm' hn' (Nat.zero_le _), sliceBound_run (C := C) ey' hm'' hn'' (Nat.zero_le _)]

theorem sliceAt_slice {t e : TypeId} (hd : C.P.underlying t = some (.slice e)) (x : Value) (lo hi mx : Option Value) : (Instr.sliceAt t x lo hi mx).run C.P w = (Instr.slice t x lo hi mx).run C.P w := by
  unfold Instr.sliceAt
  rw [Sem.run_bind, run_underlying hd]; rfl
theorem sliceAt_string {t : TypeId} (hd : C.P.underlying t = some .string) (x : Value) (lo hi mx : Option Value) : (Instr.sliceAt t x lo hi mx).run C.P w = (Instr.slice t x lo hi mx).run C.P w := by
  unfold Instr.sliceAt
  rw [Sem.run_bind, run_underlying hd]; rfl

theorem sizeOf_run {t n : Nat} (hs : C.sizeOf t = some n) (w : World) : (Go.sizeOf t).run C.P w = .ok n w := by
  simp only [Ctx.sizeOf, Option.map_eq_some_iff] at hs
  obtain ⟨i, hi, rfl⟩ := hs
  unfold Go.sizeOf
  rw [Sem.run_bind, run_typeInfo (P := C.P) w hi]; rfl

theorem extract_bytes (s : List UInt8) (a b : Nat) : (⟨⟨s⟩⟩ : ByteArray).extract a b = ⟨⟨(s.take b).drop a⟩⟩ := by
  apply ByteArray.ext
  rw [ByteArray.data_extract]
  apply Array.ext'
  simp [List.drop_take]

theorem list_shift {es : Nat} {ds : List V} {x : Value} (h : VRel fid G w (.list es ds) x) {a b : Nat} (hab : a ≤ b) (hb : b ≤ ds.length) :
    ∃ ad cap, x = .slice (some ad) ds.length cap ∧ ds.length ≤ cap ∧ VRel fid G w (.list es ((ds.take b).drop a)) (.slice (if cap = a then some ad else some (ad.add (a * es))) (b - a) (cap - a)) := by
  obtain ⟨ad, cap, rfl, hcap, hq⟩ := h.listInv
  refine ⟨ad, cap, rfl, hcap, ?_⟩
  have hlen : ((ds.take b).drop a).length = b - a := by simp; omega
  by_cases hn : (ds.take b).drop a = []
  · have hba : b - a = 0 := by rw [← hlen, hn]; rfl
    rw [hn, hba]
    split
    · exact .p _ _ (.list0 _ _ _)
    · exact .p _ _ (.list0 _ _ _)
  · have hlt : a < b := by
      rcases Nat.lt_or_ge a b with q | q
      · exact q
      · exact absurd (List.length_eq_zero_iff.1 (by omega)) hn
    rcases hq with rfl | ⟨bb, o', vals, rfl, hI, hc, hu, hr⟩
    · simp at hn
    · rw [if_neg (by omega), Addr.add_lit]
      have hu1 : ∀ d ∈ ds.take b, (cellsV d).length = es := fun d hd => hu d (List.mem_of_mem_take hd)
      have key := PRel.list (w := w) (I := G.I) es ((ds.take b).drop a) bb (o' + a * es) (cap - a) ((vals.take (b * es)).drop (a * es)) hI ((hc.take _).drop _)
        (fun d hd => hu1 d (List.mem_of_mem_drop hd)) (by
          rw [flat_drop hu1, flat_take hu]
          exact (hr.take _).drop _) (by rw [hlen]; omega)
      rw [hlen] at key
      exact .p _ _ key

theorem s_slice (hR : RelH C fid G H w) (hρ : OpdRel C fid vars G w ev ρ) {t : TypeId} {x : Operand} {lo hi mx : Option Operand} (ho : o.op = .slice t x lo hi mx) (hc : C.op0 vars pos o.op = some aop) (he : step ev H low aop = some (v, H', low')) :
    Did C fid G H w low ((execOp ρ o).run C.P w) v H' low' := by
  rw [ho] at hc
  have hrun : (execOp ρ o).run C.P w = ((Instr.sliceAt t (ρ x) (lo.map ρ) (hi.map ρ) (mx.map ρ)).run C.P w).andThen fun z w' => .ok (.value z) w' := by
    unfold execOp; rw [ho]; simp only [Sem.run_bind]; rfl
  simp only [Ctx.op0] at hc
  split at hc
  · rename_i ax alo ahi hd h2 hlo hhi hmx
    simp only [Option.some.injEq] at hc; subst hc
    have hv := hρ x ax h2
    simp only [step] at he
    split at he
    · rename_i s e1
      split at he
      · rename_i a b ha hb
        split at he
        · rename_i hle
          simp only [Option.some.injEq, Prod.mk.injEq] at he
          obtain ⟨rfl, rfl, rfl⟩ := he
          rw [e1] at hv
          obtain rfl : mx = none := by
            cases mx with
            | none => rfl
            | some y => simp [Ctx.opdO] at hmx
          have hb' := sliceBounds_run (C := C) (isS := false) (cap := s.length) hρ hlo hhi ha hb hle.1 hle.2 (Nat.le_refl _)
          refine .same hR (x := .string ⟨⟨(s.take b).drop a⟩⟩) ?_ (.p _ _ (.str _))
          rw [hrun, sliceAt_string hd, hv.strInv]
          unfold Instr.slice
          have esz : (⟨⟨s⟩⟩ : ByteArray).size = s.length := rfl
          simp only [Sem.run_bind, run_underlying hd, Result.andThen_ok, Option.map_none, Option.isSome_none, Bool.false_eq_true, if_false, esz, hb', Sem.run_pure, extract_bytes]
        · cases he
      · cases he
    · cases he
  · rename_i e ax alo ahi amx hd h2 hlo hhi hmx
    split at hc
    · rename_i n hn
      split at hc
      · cases hc
      · rename_i hn0
        simp only [Option.some.injEq] at hc; subst hc
        have hv := hρ x ax h2
        have sz := sizeOf_run (C := C) hn
        have hn0' : ahi.isNone = true → amx.isSome = true → False := by
          intro h1 h2; simp [h1, h2] at hn0
        have mxNone : ∀ {q : Option Opd}, C.opdO vars mx = some q → q = none → mx = none := by
          intro q h1 h2
          cases mx with
          | none => rfl
          | some y => simp [Ctx.opdO, h2] at h1
        have hiSome : ∀ {m : Opd}, amx = some m → ahi ≠ none := by
          rintro m rfl rfl
          exact hn0' rfl rfl
        have bounds0 : ∀ {cap : Nat}, 0 ≤ cap → bnd ev 0 alo = some 0 → bnd ev 0 ahi = some 0 → bnd ev 0 amx = some 0 → (Instr.sliceBounds true 0 0 (lo.map ρ) (hi.map ρ) (mx.map ρ)).run C.P w = .ok (0, 0, 0) w := by
          intro _ _ ha hb hm
          cases hq : amx with
          | none =>
            rw [hq] at hmx
            rw [mxNone hmx rfl]
            exact sliceBounds_run (C := C) hρ hlo hhi ha hb (Nat.le_refl _) (Nat.le_refl _) (Nat.le_refl _)
          | some m =>
            rw [hq] at hmx hm
            exact sliceBounds0_run (C := C) hρ hlo hhi hmx ha hb (hiSome hq) (Nat.le_refl _) hm
        simp only [step] at he
        split at he
        · rename_i e1
          split at he
          · rename_i ha hb hm
            simp only [Option.some.injEq, Prod.mk.injEq] at he
            obtain ⟨rfl, rfl, rfl⟩ := he
            rw [e1] at hv
            refine .same hR (x := .slice none 0 0) ?_ (.p _ _ .nil0)
            rw [hrun, sliceAt_slice hd, hv.nil0Inv]
            unfold Instr.slice
            simp only [Sem.run_bind, run_underlying hd, Result.andThen_ok, bounds0 (cap := 0) (Nat.zero_le _) ha hb hm, sz, Sem.run_pure]
            rfl
          · cases he
        · rename_i e1
          split at he
          · rename_i ha hb hm
            simp only [Option.some.injEq, Prod.mk.injEq] at he
            obtain ⟨rfl, rfl, rfl⟩ := he
            rw [e1] at hv
            obtain ⟨ad, hx⟩ := hv.empInv
            refine .same hR (x := .slice (some ad) 0 0) ?_ (.p _ _ (.emp _))
            rw [hrun, sliceAt_slice hd, hx]
            unfold Instr.slice
            simp only [Sem.run_bind, run_underlying hd, Result.andThen_ok, bounds0 (cap := 0) (Nat.zero_le _) ha hb hm, sz, Sem.run_pure]
            rfl
          · cases he
        · rename_i es' ds e1
          split at he
          · rename_i a b ha hb
            split at he
            · rename_i hle
              obtain ⟨hab, hbl, rfl⟩ := hle
              rw [e1] at hv
              obtain ⟨ad, cap, hx, hcap, hrel⟩ := list_shift hv hab hbl
              split at he
              · simp only [Option.some.injEq, Prod.mk.injEq] at he
                obtain ⟨rfl, rfl, rfl⟩ := he
                obtain rfl := mxNone hmx rfl
                refine .same hR ?_ hrel
                rw [hrun, sliceAt_slice hd, hx]
                unfold Instr.slice
                simp only [Sem.run_bind, run_underlying hd, Result.andThen_ok, Option.map_none, sliceBounds_run (C := C) hρ hlo hhi ha hb hab hbl hcap, sz, Sem.run_pure]
                rfl
              · rename_i m
                split at he
                · rename_i hm
                  obtain ⟨hm0, rfl⟩ := hm
                  simp only [Option.some.injEq, Prod.mk.injEq] at he
                  obtain ⟨rfl, rfl, rfl⟩ := he
                  refine .same hR (x := .slice (some ad) 0 0) ?_ (.p _ _ (.emp _))
                  rw [hrun, sliceAt_slice hd, hx]
                  unfold Instr.slice
                  simp only [Sem.run_bind, run_underlying hd, Result.andThen_ok, sliceBounds0_run (C := C) hρ hlo hhi hmx ha hb (hiSome rfl) hab hm0, sz, Sem.run_pure]
                  rfl
                · cases he
            · cases he
          · cases he
        · rename_i l es' off len tag e1
          split at he
          · rename_i a b ha hb
            split at he
            · rename_i hle
              obtain ⟨hab, hbl, rfl⟩ := hle
              rw [e1] at hv
              obtain ⟨h0, ad, nn, cap, hbb, hle0, had, hx⟩ := hv.srefInv
              split at he
              · split at he
                · rename_i es'' ds fz hl
                  split at he
                  · rename_i hcond
                    obtain ⟨htag, rfl, hlt⟩ := hcond
                    simp only [Option.some.injEq, Prod.mk.injEq] at he
                    obtain ⟨rfl, rfl, rfl⟩ := he
                    obtain rfl := mxNone hmx rfl
                    obtain ⟨ob, hob, hr⟩ := hR.obj l h0 hbb
                    rw [hl] at hob; cases hob
                    obtain ⟨rfl, rfl, hcs, hlc⟩ := had (hr.1.trans htag)
                    refine .same hR (x := .slice (some ⟨h0.b, (off + a) * es'', none⟩) (b - a) (cap - a)) ?_ (.sref l es'' (off + a) (b - a) tag h0 _ _ _ hbb hle0 (fun _ => ⟨rfl, rfl, ?_, by omega⟩))
                    · rw [hrun, sliceAt_slice hd, hx]
                      unfold Instr.slice
                      simp only [Sem.run_bind, run_underlying hd, Result.andThen_ok, Option.map_none, sliceBounds_run (C := C) hρ hlo hhi ha hb hab hbl hlc, sz, Sem.run_pure]
                      rw [if_neg (by omega), Option.map_some, Addr.add_lit, Nat.add_mul]
                    · have : off + a + (cap - a) = off + cap := by omega
                      rw [this]; exact hcs
                  · cases he
                · cases he
              · rename_i m
                split at he
                · rename_i hm
                  obtain ⟨hm0, rfl⟩ := hm
                  simp only [Option.some.injEq, Prod.mk.injEq] at he
                  obtain ⟨rfl, rfl, rfl⟩ := he
                  refine .same hR (x := .slice (some ad) 0 0) ?_ (.p _ _ (.emp _))
                  rw [hrun, sliceAt_slice hd, hx]
                  unfold Instr.slice
                  simp only [Sem.run_bind, run_underlying hd, Result.andThen_ok, sliceBounds0_run (C := C) hρ hlo hhi hmx ha hb (hiSome rfl) hab hm0, sz, Sem.run_pure]
                  rfl
                · cases he
            · cases he
          · cases he
        · cases he
    · cases hc
  · cases hc

end Go.Abs
/- Addresses of elements, lengths, min and max, aggregates, slices that are made. -/
namespace Go.Abs
open Go
variable {C : Ctx} {fid : Nat → Nat} {w w' : World} {G G' : Gh} {H : Heap}
variable {vars : List Nat} {ev : Opd → V} {ρ : Operand → Value} {low low' : Nat} {v : V} {H' : Heap} {pos : String} {aop : AOp} {o : Oper}

theorem PRels.split : ∀ {vs us : List V} {zs : List Value} {I : Nat → Prop}, PRels w I (vs ++ us) zs → ∃ xs ys, zs = xs ++ ys ∧ PRels w I vs xs ∧ PRels w I us ys
  | [], us, zs, _, h => ⟨[], zs, rfl, .nil, h⟩
  | v :: vs, us, _, _, .cons _ x _ xs h hs => by
    obtain ⟨as, bs, rfl, h1, h2⟩ := PRels.split (vs := vs) hs
    exact ⟨x :: as, bs, rfl, .cons v x vs as h h1, h2⟩

theorem s_indexAddr (hR : RelH C fid G H w) (hρ : OpdRel C fid vars G w ev ρ) {t : TypeId} {x i : Operand} (ho : o.op = .indexAddr t x i) (hc : C.op0 vars pos o.op = some aop) (he : step ev H low aop = some (v, H', low')) :
    Did C fid G H w low ((execOp ρ o).run C.P w) v H' low' := by
  rw [ho] at hc
  simp only [Ctx.op0] at hc
  split at hc
  · rename_i e ax bx hd h2 h3
    split at hc
    · rename_i n hn
      split at hc
      · cases hc
      · simp only [Option.some.injEq] at hc; subst hc
        have sz := sizeOf_run (C := C) hn
        have hx := hρ x ax h2
        have hi := hρ i bx h3
        simp only [step] at he
        split at he
        · rename_i j ej
          obtain ⟨k, m, em, hm, hmj⟩ := natOf_inv ej
          rw [em] at hi
          have hrun : ∀ ad len cap, ρ x = .slice (some ad) len cap → j < len → (execOp ρ o).run C.P w = .ok (.value (.pointer (some (ad.add (j * n))))) w := by
            intro ad len cap hxx hlt
            have hcond : 0 ≤ m ∧ m < (len : Int) := by omega
            unfold execOp; rw [ho]
            simp only [hxx, hi.intInv, Instr.indexAt, asIntOf, Sem.run_bind, Sem.run_pure, Result.andThen_ok, run_underlying hd, hcond, and_self, if_true, sz, hmj]
          split at he
          · rename_i es' ds e1
            split at he
            · rename_i hes
              subst hes
              obtain ⟨d, hdd, he⟩ := Option.map_eq_some_iff.1 he
              simp only [Prod.mk.injEq] at he
              obtain ⟨rfl, rfl, rfl⟩ := he
              rw [e1] at hx
              obtain ⟨ad, cap, hxx, hcap, hq⟩ := hx.listInv
              obtain ⟨hlt, hde⟩ := List.getElem?_eq_some_iff.1 hdd
              rcases hq with rfl | ⟨b, o', vals, rfl, hI, hcell, hu, hr⟩
              · simp at hlt
              · refine .same hR (hrun _ _ _ hxx hlt) ?_
                rw [Addr.add_lit]
                have h2 : ds.drop j = d :: ds.drop (j + 1) := by rw [← hde]; exact List.drop_eq_getElem_cons hlt
                have h3 := hr.drop (j * es')
                rw [← flat_drop hu, h2, List.flatMap_cons] at h3
                obtain ⟨xs, ys, hxy, hr1, -⟩ := h3.split
                have hat := hcell.drop (j * es')
                rw [hxy] at hat
                have hat1 : CellsAt w b (o' + j * es') xs := fun a c hac => hat a c (by
                  rw [List.getElem?_append_left (by
                    rcases Nat.lt_or_ge a xs.length with q | q
                    · exact q
                    · simp [List.getElem?_eq_none q] at hac)]; exact hac)
                exact .pin _ 0 b (o' + j * es') xs hI hat1 hr1
            · cases he
          · rename_i l es' off len tag e1
            split at he
            · rename_i es'' ds fz hl
              split at he
              · rename_i hcond
                obtain ⟨rfl, rfl, htag, hjl, hol⟩ := hcond
                simp only [Option.some.injEq, Prod.mk.injEq] at he
                obtain ⟨rfl, rfl, rfl⟩ := he
                rw [e1] at hx
                obtain ⟨h0, ad, nn, cap, hbb, hle0, had, hxx⟩ := hx.srefInv
                obtain ⟨ob, hob, hr⟩ := hR.obj l h0 hbb
                rw [hl] at hob; cases hob
                obtain ⟨rfl, rfl, hcs, hlc⟩ := had (hr.1.trans htag)
                refine .same hR (hrun _ _ _ hxx hjl) (.eptr l _ (off + j) 0 tag h0 _ hbb hle0 (fun _ => ?_))
                rw [Addr.add_lit, Nat.add_zero, Nat.add_mul]
              · cases he
            · cases he
          · cases he
        · cases he
    · cases hc
  · cases hc

theorem s_builtin_run {b : Builtin} {args : Array Operand} {ts : Array TypeId} (ho : o.op = .call { callee := .builtin b, args, argTypes := ts }) :
    (execOp ρ o).run C.P w = (builtin b ts o.type (args.map fun | .const _ => true | _ => false) (args.map ρ)).run C.P w := by
  unfold execOp; rw [ho]
  simp only [resolve, invoke, Sem.run_bind, Sem.run_pure, Result.andThen_ok]
  rfl

theorem toList_two {α : Type} {a : Array α} {x y : α} (h : a.toList = [x, y]) : a = #[x, y] := by
  cases a; simp_all
theorem toList_one {α : Type} {a : Array α} {x : α} (h : a.toList = [x]) : a = #[x] := by
  cases a; simp_all

theorem s_minmax (hR : RelH C fid G H w) (hρ : OpdRel C fid vars G w ev ρ) {b : Builtin} {x y : Operand} {args : Array Operand} {ts : Array TypeId} (ho : o.op = .call { callee := .builtin b, args, argTypes := ts })
    (ha : args = #[x, y]) {mx : Bool} (hb : b = if mx then .max else .min) {ax ay : Opd} (h1 : C.opd vars x = some ax) (h2 : C.opd vars y = some ay) (he : step ev H low (.minmax mx ax ay) = some (v, H', low')) :
    Did C fid G H w low ((execOp ρ o).run C.P w) v H' low' := by
  subst ha
  have hx := hρ x ax h1
  have hy := hρ y ay h2
  simp only [step] at he
  split at he
  · rename_i k a k' b' e1 e2
    split at he
    · rename_i hk
      subst hk
      simp only [Option.some.injEq, Prod.mk.injEq] at he
      obtain ⟨rfl, rfl, rfl⟩ := he
      rw [e1] at hx; rw [e2] at hy
      refine .same hR (x := .int k (if mx then max a b' else min a b')) ?_ (.p _ _ (.int _ _))
      rw [s_builtin_run ho]
      subst hb
      cases mx
      · have hm : (if b' < a then b' else a) = min a b' := by
          rw [Int.min_def]; split <;> split <;> omega
        simp [builtin, Builtin.min_, Builtin.min2, hx.intInv, hy.intInv, hm]
      · have hm : (if a < b' then b' else a) = max a b' := by
          rw [Int.max_def]; split <;> split <;> omega
        simp [builtin, Builtin.max_, Builtin.max2, hx.intInv, hy.intInv, hm]
    · cases he
  · cases he

theorem s_len (hR : RelH C fid G H w) (hρ : OpdRel C fid vars G w ev ρ) {x : Operand} {t : TypeId} {args : Array Operand} {ts : Array TypeId} (ho : o.op = .call { callee := .builtin .len, args, argTypes := ts })
    (ha : args = #[x]) (ht : ts = #[t]) {ax : Opd} (h1 : C.opd vars x = some ax) {kind : Nat} (hk : match kind with | 0 => C.P.underlying t = some .string | 1 => ∃ e, C.P.underlying t = some (.slice e) | _ => ∃ k e, C.P.underlying t = some (.map k e))
    (he : step ev H low (.len kind ax) = some (v, H', low')) : Did C fid G H w low ((execOp ρ o).run C.P w) v H' low' := by
  subst ha; subst ht
  have hx := hρ x ax h1
  have hrun : ∀ (n : Nat), (Builtin.len_ #[t] o.type #[ρ x]).run C.P w = .ok (goInt n) w → Did C fid G H w low ((execOp ρ o).run C.P w) (.int .i64 n) H low := by
    intro n hn
    refine .same hR (x := .int .i64 n) ?_ (.p _ _ (.int _ _))
    rw [s_builtin_run ho]
    simp only [builtin, Sem.run_bind]
    have e : Array.map ρ #[x] = #[ρ x] := by simp
    rw [e, hn]; rfl
  simp only [step] at he
  split at he
  · rename_i s e1
    simp only [Option.some.injEq, Prod.mk.injEq] at he
    obtain ⟨rfl, rfl, rfl⟩ := he
    rw [e1] at hx
    refine hrun s.length ?_
    have hk : C.P.underlying t = some .string := hk
    simp only [Builtin.len_, hx.strInv, Sem.run_bind, run_underlying hk, Result.andThen_ok, List.getElem?_toArray, List.getElem?_cons_zero, Sem.run_pure]
    rfl
  · rename_i e1
    simp only [Option.some.injEq, Prod.mk.injEq] at he
    obtain ⟨rfl, rfl, rfl⟩ := he
    rw [e1] at hx
    obtain ⟨e, hk⟩ : ∃ e, C.P.underlying t = some (.slice e) := hk
    refine hrun 0 ?_
    simp only [Builtin.len_, hx.nil0Inv, Sem.run_bind, run_underlying hk, Result.andThen_ok, List.getElem?_toArray, List.getElem?_cons_zero, Sem.run_pure]
  · rename_i e1
    simp only [Option.some.injEq, Prod.mk.injEq] at he
    obtain ⟨rfl, rfl, rfl⟩ := he
    rw [e1] at hx
    obtain ⟨e, hk⟩ : ∃ e, C.P.underlying t = some (.slice e) := hk
    obtain ⟨ad, hxx⟩ := hx.empInv
    refine hrun 0 ?_
    simp only [Builtin.len_, hxx, Sem.run_bind, run_underlying hk, Result.andThen_ok, List.getElem?_toArray, List.getElem?_cons_zero, Sem.run_pure]
  · rename_i es ds e1
    simp only [Option.some.injEq, Prod.mk.injEq] at he
    obtain ⟨rfl, rfl, rfl⟩ := he
    rw [e1] at hx
    obtain ⟨e, hk⟩ : ∃ e, C.P.underlying t = some (.slice e) := hk
    obtain ⟨ad, cap, hxx, -, -⟩ := hx.listInv
    refine hrun ds.length ?_
    simp only [Builtin.len_, hxx, Sem.run_bind, run_underlying hk, Result.andThen_ok, List.getElem?_toArray, List.getElem?_cons_zero, Sem.run_pure]
  · rename_i l es off len tag e1
    obtain ⟨e, hk⟩ : ∃ e, C.P.underlying t = some (.slice e) := hk
    split at he
    · rename_i es' ds fz hl
      split at he
      · rename_i hcond
        simp only [Option.some.injEq, Prod.mk.injEq] at he
        obtain ⟨rfl, rfl, rfl⟩ := he
        rw [e1] at hx
        obtain ⟨h0, ad, nn, cap, hbb, hle0, had, hxx⟩ := hx.srefInv
        obtain ⟨ob, hob, hr⟩ := hR.obj l h0 hbb
        rw [hl] at hob; cases hob
        obtain ⟨rfl, rfl, hcs, hlc⟩ := had (hr.1.trans hcond.2)
        refine hrun nn ?_
        simp only [Builtin.len_, hxx, Sem.run_bind, run_underlying hk, Result.andThen_ok, List.getElem?_toArray, List.getElem?_cons_zero, Sem.run_pure]
      · cases he
    · cases he
  · rename_i e1
    simp only [Option.some.injEq, Prod.mk.injEq] at he
    obtain ⟨rfl, rfl, rfl⟩ := he
    rw [e1] at hx
    obtain ⟨k, e, hk⟩ : ∃ k e, C.P.underlying t = some (.map k e) := hk
    refine hrun 0 ?_
    simp only [Builtin.len_, hx.nilmInv, Sem.run_bind, run_underlying hk, Result.andThen_ok, List.getElem?_toArray, List.getElem?_cons_zero, Sem.run_pure]
    rfl
  · rename_i l e1
    obtain ⟨k, e, hk⟩ : ∃ k e, C.P.underlying t = some (.map k e) := hk
    split at he
    · rename_i ents hl
      simp only [Option.some.injEq, Prod.mk.injEq] at he
      obtain ⟨rfl, rfl, rfl⟩ := he
      rw [e1] at hx
      obtain ⟨h0, hbb, -, hxx⟩ := hx.mapInv
      obtain ⟨ob, hob, hr⟩ := hR.obj l h0 hbb
      rw [hl] at hob; cases hob
      obtain ⟨-, -, es, clk, hm, hk1, hk2⟩ := hr
      have hlen := hk1.length
      simp only [List.length_map, Array.length_toList] at hlen
      refine hrun ents.length ?_
      have hg : (getObj h0.b).run C.P w = .ok (.map es clk) w := by simp [getObj, Sem.run, hm]
      simp only [Builtin.len_, hxx, Sem.run_bind, run_underlying hk, Result.andThen_ok, List.getElem?_toArray, List.getElem?_cons_zero, hg, Sem.run_pure, hlen]
    · cases he
  · cases he

end Go.Abs
/- Aggregates and slices that are made. -/
namespace Go.Abs
open Go
variable {C : Ctx} {fid : Nat → Nat} {w w' : World} {G G' : Gh} {H : Heap}
variable {vars : List Nat} {ev : Opd → V} {ρ : Operand → Value} {low low' : Nat} {v : V} {H' : Heap} {pos : String} {aop : AOp} {o : Oper}

theorem foldl_set (off : Nat) : ∀ (zs : List Value) (k : Nat) (cells : Array Value), off + k + zs.length ≤ cells.size →
    ((zs.zipIdx k).foldl (fun (cs : Array Value) (p : Value × Nat) => cs.setIfInBounds (off + p.2) p.1) cells).toList = cells.toList.take (off + k) ++ zs ++ cells.toList.drop (off + k + zs.length)
  | [], k, cells, _ => by simp
  | z :: zs, k, cells, h => by
    simp only [List.length_cons] at h
    rw [List.zipIdx_cons, List.foldl_cons, foldl_set off zs (k + 1) _ (by simp; omega)]
    have e := list_seg_step cells.toList (off + k) z zs (by simp; omega)
    rw [List.length_cons]
    simpa [Array.toList_setIfInBounds, Nat.add_assoc] using e

theorem fill_cons {place : Nat → Option (Nat × Nat)} {cells : Array Value} {i : Nat} {x : Value} {rest : List (Nat × Value)} {off n : Nat} (hp : place i = some (off, n)) (hs : x.cells.size = n) (hfit : off + n ≤ cells.size) :
    ∃ cells', Instr.fill place cells ((i, x) :: rest) = Instr.fill place cells' rest ∧ cells'.toList = cells.toList.take off ++ x.cells.toList ++ cells.toList.drop (off + x.cells.toList.length) := by
  refine ⟨x.cells.zipIdx.foldl (fun cs (c, j) => cs.setIfInBounds (off + j) c) cells, ?_, ?_⟩
  · have : ¬ (x.cells.size ≠ n || decide (off + x.cells.size > cells.size)) = true := by simp; omega
    simp only [Instr.fill, hp]
    rw [if_neg (by simpa using this)]
  · rw [← Array.foldl_toList, Array.toList_zipIdx]
    have := foldl_set off x.cells.toList 0 cells (by simp; omega)
    simpa using this

theorem fillA_sound {place : Nat → Option (Nat × Nat)} : ∀ {ps : List (Nat × Value)} {as : List (Nat × Nat × V)} {cs cs' : List V} {cells : Array Value}, ps.length = as.length →
    (∀ (j : Nat) p a, ps[j]? = some p → as[j]? = some a → place p.1 = some (a.1, a.2.1) ∧ VRel fid G w a.2.2 p.2) → VRels fid G w cs cells.toList → fillA cs as = some cs' →
    ∃ cells', Instr.fill place cells ps = some cells' ∧ VRels fid G w cs' cells'.toList
  | [], [], cs, cs', cells, _, _, hv, h => by
    simp only [fillA, Option.some.injEq] at h; subst h
    exact ⟨cells, rfl, hv⟩
  | [], _ :: _, _, _, _, hl, _, _, _ => by simp at hl
  | _ :: _, [], _, _, _, hl, _, _, _ => by simp at hl
  | (i, x) :: ps, (off, n, u) :: as, cs, cs', cells, hl, hp, hv, h => by
    simp only [fillA] at h
    split at h
    · rename_i hc
      obtain ⟨hp1, hp2⟩ := hp 0 _ _ rfl rfl
      obtain ⟨r1, r2⟩ := cells_rel hp2 hc.2.2
      have hcl := hv.length
      have hxl := r1.length
      have hxs : x.cells.size = n := by rw [← Array.length_toList]; simp only at hxl; rw [hxl, hc.1]
      obtain ⟨cells1, e1, e2⟩ := fill_cons (rest := ps) hp1 hxs (by rw [← Array.length_toList, hcl]; exact hc.2.1)
      have hv1 : VRels fid G w (setCells cs off (cellsV u)) cells1.toList := by rw [e2]; exact setCells_rel off hv r1 (by rw [hc.1]; exact hc.2.1)
      obtain ⟨cells', e3, e4⟩ := fillA_sound (by simpa using hl) (fun j p a h1 h2 => hp (j + 1) p a (by simpa using h1) (by simpa using h2)) hv1 h
      exact ⟨cells', by rw [e1, e3], e4⟩
    · cases h

theorem setCells_full : ∀ (xs cs : List V), xs.length = cs.length → setCells cs 0 xs = xs := by
  have key : ∀ (xs a b : List V), xs.length = b.length → setCells (a ++ b) a.length xs = a ++ xs := by
    intro xs
    induction xs with
    | nil => intro a b h; cases b <;> simp_all [setCells]
    | cons x xs ih =>
      intro a b h
      cases b with
      | nil => simp at h
      | cons y b =>
        have := ih (a ++ [x]) b (by simpa using h)
        simp only [setCells]
        simpa using this
  intro xs cs h
  simpa using key xs [] cs h

theorem fillL_sound {es : Nat} : ∀ {ps : List (Nat × Value)} {as : List (Nat × V)} {ds ds' : List V} {cells : Array Value}, ps.length = as.length →
    (∀ (j : Nat) p a, ps[j]? = some p → as[j]? = some a → p.1 = a.1 ∧ VRel fid G w a.2 p.2) → (∀ d ∈ ds, (cellsV d).length = es) → VRels fid G w (ds.flatMap cellsV) cells.toList → fillL es ds as = some ds' →
    ∃ cells', Instr.fill (fun i => some (i * es, es)) cells ps = some cells' ∧ VRels fid G w (ds'.flatMap cellsV) cells'.toList ∧ (∀ d ∈ ds', (cellsV d).length = es) ∧ ds'.length = ds.length
  | [], [], ds, ds', cells, _, _, hu, hv, h => by
    simp only [fillL, Option.some.injEq] at h; subst h
    exact ⟨cells, rfl, hv, hu, rfl⟩
  | [], _ :: _, _, _, _, hl, _, _, _, _ => by simp at hl
  | _ :: _, [], _, _, _, hl, _, _, _, _ => by simp at hl
  | (i, x) :: ps, (i', u) :: as, ds, ds', cells, hl, hp, hu, hv, h => by
    simp only [fillL] at h
    split at h
    · rename_i hc
      obtain ⟨hp1, hp2⟩ := hp 0 _ _ rfl rfl
      simp only at hp1 hp2; subst hp1
      obtain ⟨r1, r2⟩ := cells_rel hp2 hc.2.2
      have hcl := hv.length
      have hfl := flat_length hu
      have hxl := r1.length
      have hxs : x.cells.size = es := by rw [← Array.length_toList, hxl, hc.1]
      have hi : i * es + es ≤ ds.length * es := by
        have : (i + 1) * es ≤ ds.length * es := Nat.mul_le_mul_right _ hc.2.1
        rw [Nat.succ_mul] at this; exact this
      obtain ⟨cells1, e1, e2⟩ := fill_cons (place := fun i => some (i * es, es)) (cells := cells) (rest := ps) (i := i) rfl hxs (by rw [← Array.length_toList, hcl]; omega)
      obtain ⟨d, hd⟩ : ∃ d, ds[i]? = some d := ⟨_, List.getElem?_eq_getElem hc.2.1⟩
      have hds := flat_set hu hd (d' := u) (f := 0) (xs := cellsV u) (by rw [hc.1]; omega) (setCells_full _ _ (by rw [hc.1, hu d (List.mem_of_getElem? hd)])).symm
      rw [Nat.add_zero] at hds
      have hv1 : VRels fid G w ((ds.set i u).flatMap cellsV) cells1.toList := by rw [e2, hds]; exact setCells_rel _ hv r1 (by rw [hc.1]; omega)
      obtain ⟨cells', e3, e4, e5, e6⟩ := fillL_sound (by simpa using hl) (fun j p a h1 h2 => hp (j + 1) p a (by simpa using h1) (by simpa using h2))
        (fun a ha => by rcases List.mem_or_eq_of_mem_set ha with q | rfl; exact hu a q; exact hc.1) hv1 h
      exact ⟨cells', by rw [e1, e3], e4, e5, by rw [e6]; simp⟩
    · cases h

theorem mapM_run {α β : Type} (f : α → Sem β) (g : α → β) : ∀ (l : List α), (∀ a ∈ l, ∀ w, (f a).run C.P w = .ok (g a) w) → (l.mapM f).run C.P w = .ok (l.map g) w
  | [], _ => by simp
  | a :: l, h => by
    rw [List.mapM_cons, Sem.run_bind, h a (by simp), Result.andThen_ok, Sem.run_bind, mapM_run f g l (fun b hb => h b (by simp [hb])), Result.andThen_ok, Sem.run_pure]; rfl

theorem arrMapM_run {α β : Type} (f : α → Sem β) (g : α → β) (l : Array α) (h : ∀ a ∈ l.toList, ∀ w, (f a).run C.P w = .ok (g a) w) : (l.mapM f).run C.P w = .ok (l.map g) w := by
  rw [Array.mapM_eq_mapM_toList, Sem.run_map, mapM_run f g _ h, Result.andThen_ok]
  congr 1
  apply Array.ext'
  simp

theorem zeroCells_run {t : TypeId} {z : List V} (hz : C.zeroCells t = some z) : ∃ zv, (∀ w, (zeroValue t).run C.P w = .ok zv w) ∧ (∀ (G : Gh) (w : World), VRels fid G w z zv.cells.toList) ∧ cellsOk z = true ∧
    ∃ i, C.P.info? t = some i ∧ i.zero = some zv := by
  unfold Ctx.zeroCells at hz
  split at hz
  · rename_i i hi
    split at hz
    · rename_i zv hzv
      split at hz
      · rename_i vs hvs
        split at hz
        · rename_i hok
          simp only [Option.some.injEq] at hz; subst hz
          refine ⟨zv, fun w => ?_, fun G w => PRels.toV (constVs_sound _ hvs), hok, i, hi, hzv⟩
          simp only [zeroValue, Sem.run_bind, run_typeInfo (P := C.P) w hi, Result.andThen_ok, hzv, Sem.run_pure]
        · cases hz
      · cases hz
    · cases hz
  · cases hz

theorem mapO_length {α β : Type} (f : α → Option β) : ∀ {l : List α} {r : List β}, mapO f l = some r → r.length = l.length
  | [], _, h => by simp only [mapO, Option.some.injEq] at h; subst h; rfl
  | a :: l, _, h => by
    simp only [mapO] at h
    split at h
    · split at h
      · rename_i bs hbs
        simp only [Option.some.injEq] at h; subst h
        simp [mapO_length f hbs]
      · cases h
    · cases h
theorem mapO_get {α β : Type} (f : α → Option β) : ∀ {l : List α} {r : List β}, mapO f l = some r → ∀ {j : Nat} {a : α} {b : β}, l[j]? = some a → r[j]? = some b → f a = some b
  | [], _, h, j, a, b, h1, _ => by simp at h1
  | a :: l, _, h, j, a', b', h1, h2 => by
    simp only [mapO] at h
    split at h
    · rename_i b hb
      split at h
      · rename_i bs hbs
        simp only [Option.some.injEq] at h; subst h
        cases j with
        | zero => simp at h1 h2; subst h1; subst h2; exact hb
        | succ j => exact mapO_get f hbs (by simpa using h1) (by simpa using h2)
      · cases h
    · cases h

theorem s_build (hR : RelH C fid G H w) (hρ : OpdRel C fid vars G w ev ρ) {t : TypeId} {parts : Array (Nat × Operand)} (ho : o.op = .build t parts) (hc : C.op0 vars pos o.op = some aop) (he : step ev H low aop = some (v, H', low')) :
    Did C fid G H w low ((execOp ρ o).run C.P w) v H' low' := by
  rw [ho] at hc
  have hrun : (execOp ρ o).run C.P w = ((Instr.build t (parts.map fun (i, x) => (i, ρ x))).run C.P w).andThen fun z w' => .ok (.value z) w' := by
    unfold execOp; rw [ho]; simp only [Sem.run_bind]; rfl
  -- the common part: 'ap' the parts of the simplified operation, 'place' the places
  have main : ∀ (z : List V) (ap : List (Nat × Nat × Opd)) (place : Nat → Option (Nat × Nat)), C.zeroCells t = some z → ap.length = parts.toList.length →
      (∀ (j : Nat) p a, parts.toList[j]? = some p → ap[j]? = some a → place p.1 = some (a.1, a.2.1) ∧ C.opd vars p.2 = some a.2.2) →
      (∀ (zv : Value) (w : World), (∀ w, (zeroValue t).run C.P w = .ok zv w) → ∀ cells, Instr.fill place zv.cells (parts.toList.map fun (i, x) => (i, ρ x)) = some cells →
        (Instr.build t (parts.map fun (i, x) => (i, ρ x))).run C.P w = .ok (.agg cells) w) →
      step ev H low (.build z ap) = some (v, H', low') → Did C fid G H w low ((execOp ρ o).run C.P w) v H' low' := by
    intro z ap place hz hlen hpl hb he
    obtain ⟨zv, hzr, hzrel, hok, -⟩ := zeroCells_run (fid := fid) hz
    simp only [step] at he
    split at he
    · rename_i vs H1 low1 hf
      obtain ⟨cs, hcs, he⟩ := Option.map_eq_some_iff.1 he
      simp only [Prod.mk.injEq] at he
      obtain ⟨rfl, rfl, rfl⟩ := he
      have hvals : VRels fid G w (ap.map fun p => ev p.2.2) (parts.toList.map fun p => ρ p.2) := by
        refine VRels.mem_of_forall (by simp [hlen]) (fun j a x h1 h2 => ?_)
        simp only [List.getElem?_map, Option.map_eq_some_iff] at h1 h2
        obtain ⟨a', ha', rfl⟩ := h1
        obtain ⟨p', hp', rfl⟩ := h2
        exact hρ _ _ (hpl j p' a' hp' ha').2
      obtain ⟨G1, f1, k1⟩ := freezeVs_sound hR hvals hf
      have hvl := k1.length
      have hvl' : vs.length = ap.length := by rw [← hvl]; simp [hlen]
      obtain ⟨cells, e1, e2⟩ := fillA_sound (fid := fid) (G := G1) (w := w) (place := place) (ps := parts.toList.map fun (i, x) => (i, ρ x)) (as := (ap.zip vs).map fun (p, v) => (p.1, p.2.1, v))
        (by simp [hlen, hvl']) (fun j p a h1 h2 => by
          simp only [List.getElem?_map, Option.map_eq_some_iff] at h1 h2
          obtain ⟨p', hp', rfl⟩ := h1
          obtain ⟨⟨a', v'⟩, ha', rfl⟩ := h2
          rw [List.getElem?_zip_eq_some] at ha'
          refine ⟨(hpl j p' a' hp' ha'.1).1, ?_⟩
          obtain ⟨y, hy, hrel⟩ := k1.get ha'.2
          simp only [List.getElem?_map, hp', Option.map_some, Option.some.injEq] at hy
          subst hy; exact hrel) (hzrel G1 w) hcs
      refine Did.afterFreeze f1 (Did.same f1.rel (x := .agg cells) ?_ (.agg _ cells.toList e2))
      rw [hrun, hb zv w hzr cells e1]; rfl
    · cases he
  simp only [Ctx.op0] at hc
  split at hc
  · rename_i fs z hd hz
    split at hc
    · cases hc
    · rename_i hall
      obtain ⟨ap, hap, rfl⟩ := Option.map_eq_some_iff.1 hc
      have hsz : ∀ f ∈ fs.toList, ∃ n, C.sizeOf f.type = some n := by
        intro f hf
        cases hq : C.sizeOf f.type with
        | some n => exact ⟨n, rfl⟩
        | none => exact absurd (List.any_eq_true.2 ⟨f, hf, by simp [hq]⟩) hall
      refine main z ap (fun i => (fs.map fun f => (f.offset, (C.sizeOf f.type).getD 0))[i]?) hz (mapO_length _ hap) ?_ ?_ he
      · intro j p a h1 h2
        have := mapO_get _ hap h1 h2
        split at this
        · rename_i f hf
          split at this
          · rename_i n x hn hx
            simp only [Option.some.injEq] at this; subst this
            refine ⟨?_, hx⟩
            simp only [Array.getElem?_map, hf, Option.map_some, hn, Option.getD_some]
          · cases this
        · cases this
      · intro zv w hzr cells hfill
        have hm := arrMapM_run (C := C) (w := w) (fun (f : Field) => (do pure (f.offset, ← Go.sizeOf f.type) : Sem (Nat × Nat))) (fun f => (f.offset, (C.sizeOf f.type).getD 0)) fs (fun f hf w => by
          obtain ⟨n, hn⟩ := hsz f hf
          simp only [Sem.run_bind, sizeOf_run (C := C) hn, Result.andThen_ok, Sem.run_pure, hn, Option.getD_some])
        have hpl : (parts.map fun (i, x) => (i, ρ x)).toList = parts.toList.map fun (i, x) => (i, ρ x) := by simp
        unfold Instr.build
        simp only [Sem.run_bind, hzr, run_underlying hd, Result.andThen_ok, hm, hpl, hfill, Sem.run_pure]
  · rename_i n e z hd hz
    split at hc
    · rename_i sz hs
      obtain ⟨ap, hap, rfl⟩ := Option.map_eq_some_iff.1 hc
      refine main z ap (fun i => some (i * sz, sz)) hz (mapO_length _ hap) ?_ ?_ he
      · intro j p a h1 h2
        have := mapO_get _ hap h1 h2
        split at this
        · rename_i x hx
          simp only [Option.some.injEq] at this; subst this
          exact ⟨rfl, hx⟩
        · cases this
      · intro zv w hzr cells hfill
        have hpl : (parts.map fun (i, x) => (i, ρ x)).toList = parts.toList.map fun (i, x) => (i, ρ x) := by simp
        unfold Instr.build
        simp only [Sem.run_bind, hzr, run_underlying hd, Result.andThen_ok, sizeOf_run (C := C) hs, hpl, hfill, Sem.run_pure]
    · cases hc
  · cases hc

end Go.Abs
/- Slices that are made: literals, make, append, copy. -/
namespace Go.Abs
open Go
variable {C : Ctx} {fid : Nat → Nat} {w w' : World} {G G' : Gh} {H : Heap}
variable {vars : List Nat} {ev : Opd → V} {ρ : Operand → Value} {low low' : Nat} {v : V} {H' : Heap} {pos : String} {aop : AOp} {o : Oper}

/-- A new block that no object names. -/
theorem RelH.allocI (hR : RelH C fid G H w) (ob : Obj) (p : Prop) : RelH C fid ⟨G.β, fun b => G.I b ∨ (b = w.heap.size ∧ p)⟩ H (w.alloc ob) where
  obj l h hb := by
    obtain ⟨o, ho, hr⟩ := hR.obj l h hb
    exact ⟨o, ho, ORel.mono (G := G) (G' := ⟨G.β, fun b => G.I b ∨ (b = w.heap.size ∧ p)⟩) (HomesLe.refl _) (fun b (hi : G.I b) => ⟨.inl hi, alloc_old (hR.imm b hi).1⟩) (alloc_old (hR.blk l h hb)) hr⟩
  inj := hR.inj
  blk l h hb := by rw [World.size_alloc]; have := hR.blk l h hb; omega
  imm b hi := by
    rw [World.size_alloc]
    rcases hi with hi | ⟨rfl, -⟩
    · exact ⟨by have := (hR.imm b hi).1; omega, (hR.imm b hi).2⟩
    · exact ⟨by omega, fun l h hb q => by have := hR.blk l h hb; omega⟩
  fzI l h hb hf := .inl (hR.fzI l h hb hf)
  glob b o hg := ⟨.inl (hR.glob b o hg).1, by rw [alloc_old (hR.imm b (hR.glob b o hg).1).1]; exact (hR.glob b o hg).2⟩

theorem Ext.allocI (ob : Obj) (p : Prop) (m n : Nat) : Ext G w ⟨G.β, fun b => G.I b ∨ (b = w.heap.size ∧ p)⟩ (w.alloc ob) m n where
  size := by simp
  os := rfl
  tape := rfl
  output := rfl
  keep b hb _ := alloc_old hb
  homes := .refl _
  newH l h hb := .inl ⟨h, hb, .inl rfl⟩
  imm _ h := .inl h
  newI b hi := by
    rcases hi with hi | ⟨rfl, -⟩
    · exact .inl hi
    · exact .inr (.inl (Nat.le_refl _))

theorem zeroElem_cells {z : List V} (h : cellsOk z = true) : cellsV (zeroElem z) = z := by
  unfold zeroElem
  split
  · rename_i x
    simp only [cellsOk, Bool.and_true] at h
    cases x <;> first | rfl | simp [cellOk] at h
  · rfl

theorem replicate_rel {z : List V} {zv : Array Value} (hz : VRels fid G w z zv.toList) (hok : cellsOk z = true) (hpos : 0 < zv.size) : ∀ (n : Nat),
    VRels fid G w ((List.replicate n (zeroElem z)).flatMap cellsV) ((List.range (n * zv.size)).map fun i => zv[i % zv.size]!)
  | 0 => by simpa using VRels.nil
  | n + 1 => by
    have ih := replicate_rel hz hok hpos n
    have e1 : (n + 1) * zv.size = zv.size + n * zv.size := by rw [Nat.succ_mul, Nat.add_comm]
    rw [List.replicate_succ, List.flatMap_cons, zeroElem_cells hok, e1, List.range_add, List.map_append, List.map_map]
    have e2 : (List.range zv.size).map (fun i => zv[i % zv.size]!) = zv.toList := by
      apply List.ext_getElem?
      intro j
      simp only [List.getElem?_map]
      by_cases hj : j < zv.size
      · rw [List.getElem?_range hj]
        simp [Nat.mod_eq_of_lt hj, hj]
      · rw [List.getElem?_eq_none (by simpa using hj), List.getElem?_eq_none (by simpa using hj)]; rfl
    have e3 : ((fun i => zv[i % zv.size]!) ∘ (zv.size + ·)) = fun i => zv[i % zv.size]! := by
      funext i; simp
    rw [e2, e3]
    exact hz.append ih

theorem replicate_u {z : List V} (hok : cellsOk z = true) {n k : Nat} (hk : z.length = k) : ∀ d ∈ List.replicate n (zeroElem z), (cellsV d).length = k := by
  intro d hd
  rw [(List.mem_replicate.1 hd).2, zeroElem_cells hok, hk]

/-- A new row object. -/
theorem rowObj (hR : RelH C fid G H w) {es : Nat} {ds : List V} {c : Array Value} {vals rest : List Value} {e : TypeId} (hes : 0 < es) (hn : 0 < ds.length) (hu : ∀ d ∈ ds, (cellsV d).length = es) (hc : c.toList = vals ++ rest)
    (hv : VRels fid G w (ds.flatMap cellsV) vals) :
    ORel C fid ⟨upd G.β H.length ⟨w.heap.size, ds.length, c.size, false⟩, G.I⟩ (w.alloc (.cells c e)) ⟨w.heap.size, ds.length, c.size, false⟩ (.row es ds false) :=
  ⟨rfl, hn, rfl, hes, hu, c, e, vals, rest, alloc_new _ _, rfl, hc, hv.ext hR (Ext.push hR _ ds.length c.size 0)⟩

theorem s_lit (hR : RelH C fid G H w) (hρ : OpdRel C fid vars G w ev ρ) {t : TypeId} {len : Nat} {parts : Array (Nat × Operand)} (ho : o.op = .buildSlice t len parts) (hc : C.op0 vars pos o.op = some aop) (he : step ev H low aop = some (v, H', low')) :
    Did C fid G H w low ((execOp ρ o).run C.P w) v H' low' := by
  rw [ho] at hc
  have hrun : (execOp ρ o).run C.P w = ((Instr.buildSlice t len (parts.map fun (i, x) => (i, ρ x))).run C.P w).andThen fun z w' => .ok (.value z) w' := by
    unfold execOp; rw [ho]; simp only [Sem.run_bind]; rfl
  simp only [Ctx.op0] at hc
  split at hc
  · rename_i e hd
    split at hc
    · rename_i n z ap hn hz hap
      split at hc
      · cases hc
      · rename_i hcond
        simp only [not_or, Nat.not_lt, ne_eq, Classical.not_not] at hcond
        obtain ⟨hn0, hlim, hzl⟩ := hcond
        simp only [Option.some.injEq] at hc; subst hc
        obtain ⟨zv, hzr, hzrel, hok, -⟩ := zeroCells_run (fid := fid) hz
        have hlen := mapO_length _ hap
        have hzsz : zv.cells.size = n := by rw [← Array.length_toList, (hzrel G w).length, hzl]
        simp only [step] at he
        split at he
        · rename_i vs H1 low1 hf
          have hvals : VRels fid G w (ap.map fun p => ev p.2) (parts.toList.map fun p => ρ p.2) := by
            refine VRels.mem_of_forall (by simp [hlen]) (fun j a x h1 h2 => ?_)
            simp only [List.getElem?_map, Option.map_eq_some_iff] at h1 h2
            obtain ⟨a', ha', rfl⟩ := h1
            obtain ⟨p', hp', rfl⟩ := h2
            have := mapO_get _ hap hp' ha'
            obtain ⟨ax, hx, rfl⟩ := Option.map_eq_some_iff.1 this
            exact hρ _ _ hx
          obtain ⟨G1, f1, k1⟩ := freezeVs_sound hR hvals hf
          have hvl' : vs.length = ap.length := by have := k1.length; simp only [List.length_map] at this; omega
          split at he
          · rename_i ds hds
            have hpsl : ((parts.map fun (i, x) => (i, ρ x)).toList) = parts.toList.map fun (i, x) => (i, ρ x) := by simp
            have hinit : VRels fid G1 w ((List.replicate len (zeroElem z)).flatMap cellsV) (((Array.range (len * n)).map fun i => (if len * n = 0 then #[] else zv.cells)[i % (if len * n = 0 then #[] else zv.cells : Array Value).size]!).toList) := by
              by_cases hl0 : len = 0
              · subst hl0; simpa using VRels.nil
              · have h0 : len * n ≠ 0 := Nat.mul_ne_zero hl0 hn0
                have := replicate_rel (hzrel G1 w) hok (by omega) len
                rw [hzsz] at this
                simpa [h0, hzsz] using this
            obtain ⟨cells, e1, e2, e3, e4⟩ := fillL_sound (fid := fid) (G := G1) (w := w) (es := n) (ps := parts.toList.map fun (i, x) => (i, ρ x)) (as := (ap.zip vs).map fun (p, v) => (p.1, v))
              (by simp [hlen, hvl']) (fun j p a h1 h2 => by
                simp only [List.getElem?_map, Option.map_eq_some_iff] at h1 h2
                obtain ⟨p', hp', rfl⟩ := h1
                obtain ⟨⟨a', v'⟩, ha', rfl⟩ := h2
                rw [List.getElem?_zip_eq_some] at ha'
                have := mapO_get _ hap hp' ha'.1
                obtain ⟨ax, hx, rfl⟩ := Option.map_eq_some_iff.1 this
                refine ⟨rfl, ?_⟩
                obtain ⟨y, hy, hrel⟩ := k1.get ha'.2
                simp only [List.getElem?_map, hp', Option.map_some, Option.some.injEq] at hy
                subst hy; exact hrel) (replicate_u hok hzl) hinit hds
            rw [List.length_replicate] at e4
            have hb : (Instr.buildSlice t len (parts.map fun (i, x) => (i, ρ x))).run C.P w = .ok (.slice (some ⟨w.heap.size, 0, none⟩) len len) (w.alloc (.cells cells e)) := by
              unfold Instr.buildSlice
              have hl : ¬ len * n > 2 ^ 24 := by omega
              simp only [Sem.run_bind, run_underlying hd, Result.andThen_ok, sizeOf_run (C := C) hn, hl, if_false, hpsl]
              by_cases h0 : len * n = 0
              · simp only [h0, if_true] at e1 ⊢
                simp only [Sem.run_bind, Sem.run_pure, Result.andThen_ok, e1, newRow, run_newObj, World.alloc_eq]
              · simp only [h0, if_false] at e1 ⊢
                simp only [Sem.run_bind, Sem.run_pure, Result.andThen_ok, hzr, e1, newRow, run_newObj, World.alloc_eq]
            have hval : (execOp ρ o).run C.P w = .ok (.value (.slice (some ⟨w.heap.size, 0, none⟩) len len)) (w.alloc (.cells cells e)) := by rw [hrun, hb]; rfl
            have hes : 0 < n := Nat.pos_of_ne_zero hn0
            have emp : Did C fid G H w low ((execOp ρ o).run C.P w) .emp H1 low1 → True := fun _ => trivial
            have mkEmp : len = 0 → Did C fid G H w low ((execOp ρ o).run C.P w) .emp H1 low1 := by
              intro h0
              refine Did.afterFreeze f1 ⟨_, _, _, .inl hval, f1.rel.allocI _ False, fun m _ => Ext.allocI _ _ _ _, ?_, Nat.le_refl _, Nat.le_refl _⟩
              subst h0; exact .p _ _ (.emp _)
            split at he
            · split at he
              · rename_i him hp
                by_cases h0 : len = 0
                · simp only [h0, if_true, Option.some.injEq, Prod.mk.injEq] at he
                  obtain ⟨rfl, rfl, rfl⟩ := he
                  exact mkEmp h0
                · simp only [h0, if_false, Option.some.injEq, Prod.mk.injEq] at he
                  obtain ⟨rfl, rfl, rfl⟩ := he
                  refine Did.afterFreeze f1 ⟨_, _, ⟨G1.β, fun b => G1.I b ∨ (b = w.heap.size ∧ True)⟩, .inl hval, f1.rel.allocI _ True, fun m _ => Ext.allocI _ _ _ _, ?_, Nat.le_refl _, Nat.le_refl _⟩
                  have hx := Ext.allocI (G := G1) (w := w) (.cells cells e) True 0 H1.length
                  have key := PRel.list (w := w.alloc (.cells cells e)) (I := fun b => G1.I b ∨ (b = w.heap.size ∧ True)) n ds w.heap.size 0 len cells.toList (.inr ⟨rfl, trivial⟩)
                    (CellsAt.of_row (rest := []) (alloc_new _ _) (by simp)) e3 ((e2.ext f1.rel hx).toP (isPs_flat hp)) (by omega)
                  rw [e4] at key
                  exact .p _ _ key
              · cases he
            · split at he
              · rename_i h0
                simp only [Option.some.injEq, Prod.mk.injEq] at he
                obtain ⟨rfl, rfl, rfl⟩ := he
                exact mkEmp h0
              · rename_i h0
                simp only [Option.some.injEq, Prod.mk.injEq] at he
                obtain ⟨rfl, rfl, rfl⟩ := he
                have hcsz : cells.size = len * n := by
                  rw [← Array.length_toList, e2.length, flat_length e3, e4]
                refine Did.afterFreeze f1 (Did.alloc f1.rel ds.length cells.size hval (rowObj f1.rel hes (by omega) e3 (rest := []) (by simp) e2) ?_)
                refine .sref _ n 0 len len ⟨w.heap.size, ds.length, cells.size, false⟩ _ _ _ (upd_same _ _ _) (by simp only; omega) (fun _ => ⟨by simp, rfl, ?_, Nat.le_refl _⟩)
                rw [hcsz, Nat.zero_add]; exact Nat.le_refl _
          · cases he
        · cases he
    · cases hc
  · cases hc

end Go.Abs
/- make, append, copy. -/
namespace Go.Abs
open Go
variable {C : Ctx} {fid : Nat → Nat} {w w' : World} {G G' : Gh} {H : Heap}
variable {vars : List Nat} {ev : Opd → V} {ρ : Operand → Value} {low low' : Nat} {v : V} {H' : Heap} {pos : String} {aop : AOp} {o : Oper}

theorem wrap64_small {n : Int} (h0 : 0 ≤ n) (h : n ≤ 1099511627776) : IntKind.i64.wrap n = n := by
  have e : n % (2 ^ IntKind.i64.bits : Int) = n := Int.emod_eq_of_lt h0 (by show n < (2 ^ 64 : Int); omega)
  unfold IntKind.wrap
  rw [e]
  have : ¬ (n ≥ (2 ^ (IntKind.i64.bits - 1) : Int)) := by show ¬ n ≥ (2 ^ 63 : Int); omega
  simp [this]

theorem s_mkSlice (hR : RelH C fid G H w) (hρ : OpdRel C fid vars G w ev ρ) {t : TypeId} {l c : Operand} (ho : o.op = .makeSlice t l c) (hc : C.op0 vars pos o.op = some aop) (he : step ev H low aop = some (v, H', low')) :
    Did C fid G H w low ((execOp ρ o).run C.P w) v H' low' := by
  rw [ho] at hc
  simp only [Ctx.op0] at hc
  split at hc
  · rename_i e hd
    split at hc
    · rename_i i z al ac hi hz h1 h2
      split at hc
      · cases hc
      · rename_i hcond
        simp only [not_or, ne_eq, Classical.not_not] at hcond
        simp only [Option.some.injEq] at hc; subst hc
        obtain ⟨zv, hzr, hzrel, hok, -⟩ := zeroCells_run (fid := fid) hz
        have hzsz : zv.cells.size = i.size := by rw [← Array.length_toList, (hzrel G w).length, hcond.2]
        have hl := hρ l al h1
        have hcc := hρ c ac h2
        simp only [step] at he
        split at he
        · rename_i k n k' m e1 e2
          split at he
          · rename_i hb
            obtain ⟨rfl, hn0, hbound⟩ := hb
            rw [e1] at hl; rw [e2] at hcc
            obtain ⟨j, rfl⟩ := Int.eq_ofNat_of_zero_le hn0
            have hb1 : j ≤ 1099511627776 := by
              have : (j : Int) * 1 ≤ (j : Int) * ((i.bytes : Int) + 1) := Int.mul_le_mul_of_nonneg_left (by omega) hn0
              omega
            have hb2 : (i.bytes : Int) * (j : Int) ≤ 1099511627776 := by
              have : (j : Int) * ((i.bytes : Int) + 1) = (i.bytes : Int) * (j : Int) + j := by rw [Int.mul_add, Int.mul_comm]; omega
              omega
            have hw := wrap64_small hn0 (by omega : (j : Int) ≤ 1099511627776)
            have hpos : 0 < i.size := Nat.pos_of_ne_zero hcond.1
            have hrun : ∃ cells, (execOp ρ o).run C.P w = .ok (.value (.slice (some ⟨w.heap.size, 0, none⟩) j j)) (w.alloc (.cells cells e)) ∧ cells.toList = (List.range (j * i.size)).map (fun q => zv.cells[q % zv.cells.size]!) := by
              refine ⟨(Array.range (j * i.size)).map (fun q => (if j * i.size = 0 then #[] else zv.cells : Array Value)[q % (if j * i.size = 0 then #[] else zv.cells : Array Value).size]!), ?_, ?_⟩
              · unfold execOp; rw [ho]
                have ht1 : ¬ ((decide ((j : Int) < 0) || decide ((i.bytes : Int) * (j : Int) > 2 ^ 48)) = true) := by simp; omega
                have ht2 : ¬ ((decide ((j : Int) < 0) || decide ((i.bytes : Int) * (j : Int) > 2 ^ 48) || decide ((j : Int) < 0) || decide ((j : Int) > (j : Int))) = true) := by simp; omega
                simp only [hl.intInv, hcc.intInv, Instr.makeSlice, asInt, asIntOf, Sem.run_bind, Sem.run_pure, Result.andThen_ok, run_underlying hd, run_typeInfo (P := C.P) w hi, hw]
                rw [if_neg (by simpa using ht2)]
                simp only [Sem.run_bind, run_askRoom, Result.andThen_ok, sizeOf, run_typeInfo (P := C.P) w hi, Sem.run_pure, Int.toNat_natCast]
                by_cases h0 : j * i.size = 0
                · simp only [h0, if_true, Sem.run_bind, Sem.run_pure, Result.andThen_ok, newRow, run_newObj, World.alloc_eq]
                · simp only [h0, if_false, Sem.run_bind, Sem.run_pure, Result.andThen_ok, hzr, newRow, run_newObj, World.alloc_eq]
              · by_cases h0 : j * i.size = 0
                · simp [h0]
                · simp [h0]
            obtain ⟨cells, hrun, hcl⟩ := hrun
            split at he
            · rename_i hj0
              simp only [Option.some.injEq, Prod.mk.injEq] at he
              obtain ⟨rfl, rfl, rfl⟩ := he
              obtain rfl : j = 0 := by omega
              exact ⟨_, _, _, .inl hrun, hR.allocI _ False, fun m _ => Ext.allocI _ _ _ _, .p _ _ (.emp _), Nat.le_refl _, Nat.le_refl _⟩
            · rename_i hj0
              simp only [Option.some.injEq, Prod.mk.injEq, Int.toNat_natCast] at he
              obtain ⟨rfl, rfl, rfl⟩ := he
              have hrep := replicate_rel (hzrel G w) hok (by omega) j
              rw [hzsz] at hrep hcl
              rw [← hcl] at hrep
              have hu := replicate_u hok (n := j) hcond.2
              have hcs : cells.size = j * i.size := by rw [← Array.length_toList, hrep.length, flat_length hu, List.length_replicate]
              refine Did.alloc hR (List.replicate j (zeroElem z)).length cells.size hrun (rowObj hR hpos (by simp; omega) hu (rest := []) (by simp) hrep) ?_
              refine .sref _ _ 0 j j ⟨w.heap.size, (List.replicate j (zeroElem z)).length, cells.size, false⟩ _ _ _ (upd_same _ _ _) (by simp) (fun _ => ⟨by simp, rfl, ?_, Nat.le_refl _⟩)
              rw [hcs, Nat.zero_add]; exact Nat.le_refl _
          · cases he
        · cases he
    · cases hc
  · cases hc

/-! ### append -/

/-- What the elements of a slice are in memory. -/
theorem elems_sound (hR : RelH C fid G H w) {es : Nat} {a : V} {xs : List V} {x : Value} (ha : VRel fid G w a x) (he : elems H es a = some xs) :
    ∃ ad cap, x = .slice ad xs.length cap ∧ (xs ≠ [] → ∃ b off vals, ad = some ⟨b, off, none⟩ ∧ CellsAt w b off vals ∧ VRels fid G w (xs.flatMap cellsV) vals ∧ ∀ d ∈ xs, (cellsV d).length = es) := by
  unfold elems at he
  split at he
  · simp only [Option.some.injEq] at he; subst he
    exact ⟨none, 0, ha.nil0Inv, fun h => absurd rfl h⟩
  · simp only [Option.some.injEq] at he; subst he
    obtain ⟨ad, hx⟩ := ha.empInv
    exact ⟨some ad, 0, hx, fun h => absurd rfl h⟩
  · split at he
    · rename_i hes
      simp only [Option.some.injEq] at he; subst he; subst hes
      obtain ⟨ad, cap, hx, -, hq⟩ := ha.listInv
      refine ⟨some ad, cap, hx, fun hne => ?_⟩
      rcases hq with rfl | ⟨b, off, vals, rfl, hI, hc, hu, hr⟩
      · exact absurd rfl hne
      · exact ⟨b, off, vals, rfl, hc, hr.toV, hu⟩
    · cases he
  · rename_i l es' off len tag
    split at he
    · rename_i es'' ds fz hl
      split at he
      · rename_i hcond
        obtain ⟨rfl, rfl, htag, hol⟩ := hcond
        simp only [Option.some.injEq] at he; subst he
        obtain ⟨h0, ad, nn, cap, hbb, hle0, had, hxx⟩ := ha.srefInv
        obtain ⟨ob, hob, hr⟩ := hR.obj l h0 hbb
        rw [hl] at hob; cases hob
        obtain ⟨ht, hpos, hf, hes, hu, c, e, vals, rest, hc, hcs, hv, hrel⟩ := hr
        obtain ⟨rfl, rfl, -, -⟩ := had (ht.trans htag)
        have hlen : ((ds.drop off).take nn).length = nn := by simp; omega
        rw [hlen]
        refine ⟨_, cap, hxx, fun _ => ⟨h0.b, off * es'', (vals.drop (off * es'')).take (nn * es''), rfl, ?_, ?_, fun d hd => hu d (List.mem_of_mem_drop (List.mem_of_mem_take hd))⟩⟩
        · have := ((CellsAt.of_row hc hv).drop (off * es'')).take (nn * es'')
          rwa [Nat.zero_add] at this
        · have hu' : ∀ d ∈ ds.drop off, (cellsV d).length = es'' := fun d hd => hu d (List.mem_of_mem_drop hd)
          rw [flat_take hu', flat_drop hu]
          exact (hrel.drop _).take _
      · cases he
    · cases he
  · cases he

theorem firstCells_run {size n cap : Nat} {b off : Nat} {vals : List Value} (hc : CellsAt w b off vals) (hl : vals.length = n * size) :
    (Builtin.firstCells size n (.slice (some ⟨b, off, none⟩) n cap)).run C.P w = .ok vals.toArray w := by
  have := run_loadCells_list (P := C.P) w ⟨b, off, none⟩ vals (fun j v hj => by rw [Addr.add_lit]; exact hc j v hj)
  rw [hl] at this
  exact this

theorem freezeV_cells (hR : RelH C fid G H w) {low low' : Nat} {v v' : V} {zs : List Value} {H' : Heap} (hv : VRels fid G w (cellsV v) zs) (he : freezeV H low v = some (v', H', low')) :
    ∃ G', Froze C fid G H w low G' H' low' ∧ VRels fid G' w (cellsV v') zs ∧ (cellsV v').length = (cellsV v).length := by
  unfold freezeV at he
  split at he
  · simp only [Option.some.injEq, Prod.mk.injEq] at he
    obtain ⟨rfl, rfl, rfl⟩ := he
    exact ⟨G, .refl hR _, hv, rfl⟩
  · split at he
    · rename_i vs
      split at he
      · rename_i vs' H1 low1 h1
        simp only [Option.some.injEq, Prod.mk.injEq] at he
        obtain ⟨rfl, rfl, rfl⟩ := he
        obtain ⟨G1, f1, k1⟩ := freezeL_sound hR hv h1
        exact ⟨G1, f1, k1, by have := k1.length; have := hv.length; simp only [cellsV] at *; omega⟩
      · cases he
    · rename_i vs
      split at he
      · rename_i vs' H1 low1 h1
        simp only [Option.some.injEq, Prod.mk.injEq] at he
        obtain ⟨rfl, rfl, rfl⟩ := he
        cases hv with
        | cons _ x _ xs h hs =>
          cases hs
          obtain ⟨vals, rfl, hr⟩ := h.tupInv
          obtain ⟨G1, f1, k1⟩ := freezeL_sound hR hr h1
          exact ⟨G1, f1, .cons _ _ _ _ (.tup _ _ k1) .nil, rfl⟩
      · cases he
    · rename_i hna hnt
      have e : cellsV v = [v] := by cases v <;> first | rfl | (exfalso; exact hna _ rfl)
      rw [e] at hv
      cases hv with
      | cons _ x _ xs h hs =>
        cases hs
        obtain ⟨G1, f1, k1⟩ := freeze1_sound hR h he
        have e' : cellsV v' = [v'] := by
          unfold freeze1 at he
          split at he
          · split at he
            · split at he
              · simp only [Option.some.injEq, Prod.mk.injEq] at he
                obtain ⟨rfl, -, -⟩ := he; rfl
              · cases he
            · cases he
          · simp only [Option.some.injEq, Prod.mk.injEq] at he
            obtain ⟨rfl, -, -⟩ := he; exact e
        rw [e', e]
        exact ⟨G1, f1, .cons _ _ _ _ k1 .nil, rfl⟩

theorem freezeVs_cells : ∀ {vs vs' : List V} {xs : List Value} {G : Gh} {H H' : Heap} {low low' : Nat}, RelH C fid G H w → VRels fid G w (vs.flatMap cellsV) xs → freezeVs H low vs = some (vs', H', low') →
    ∃ G', Froze C fid G H w low G' H' low' ∧ VRels fid G' w (vs'.flatMap cellsV) xs ∧ vs'.length = vs.length ∧ ∀ es, (∀ d ∈ vs, (cellsV d).length = es) → ∀ d ∈ vs', (cellsV d).length = es
  | [], _, _, G, H, H', low, low', hR, h, he => by
    simp only [freezeVs, Option.some.injEq, Prod.mk.injEq] at he
    obtain ⟨rfl, rfl, rfl⟩ := he
    exact ⟨G, .refl hR _, h, rfl, fun _ h => h⟩
  | v :: r, _, xs, G, H, H', low, low', hR, h, he => by
    simp only [freezeVs] at he
    split at he
    · rename_i v1 H1 low1 h1
      split at he
      · rename_i r2 H2 low2 h2
        simp only [Option.some.injEq, Prod.mk.injEq] at he
        obtain ⟨rfl, rfl, rfl⟩ := he
        rw [List.flatMap_cons] at h
        obtain ⟨ys, zs, rfl, hy, hz⟩ := h.split
        obtain ⟨G1, f1, k1, l1⟩ := freezeV_cells hR hy h1
        obtain ⟨G2, f2, k2, l2, u2⟩ := freezeVs_cells f1.rel (hz.ext hR (f1.ext 0 (Nat.zero_le _))) h2
        refine ⟨G2, f1.trans f2, ?_, by simp [l2], fun es hu d hd => ?_⟩
        · rw [List.flatMap_cons]; exact (k1.ext f1.rel (f2.ext 0 (Nat.zero_le _))).append k2
        · rcases List.mem_cons.1 hd with rfl | hd
          · rw [l1]; exact hu v (by simp)
          · exact u2 es (fun d hd => hu d (by simp [hd])) d hd
      · cases he
    · cases he

end Go.Abs
/- append and copy. -/
namespace Go.Abs
open Go
variable {C : Ctx} {fid : Nat → Nat} {w w' : World} {G G' : Gh} {H : Heap}
variable {vars : List Nat} {ev : Opd → V} {ρ : Operand → Value} {low low' : Nat} {v : V} {H' : Heap} {pos : String} {aop : AOp} {o : Oper}

theorem append_fits {P : Program} {t u ty e e' : TypeId} {i : TypeInfo} (hd : P.underlying t = some (.slice e)) (hu : P.underlying u = some (.slice e')) (hi : P.info? e = some i) {base xb : Option Addr} {sLen sCap n xc : Nat} {news : List Value}
    (hx : (Builtin.firstCells i.size n (.slice xb n xc)).run P w = .ok news.toArray w) (hfit : sLen + n ≤ sCap) :
    (Builtin.append_ #[t, u] ty #[.slice base sLen sCap, .slice xb n xc]).run P w =
      ((match base with | some a => storeCells (a.add (sLen * i.size)) news | none => pure ()).run P w).andThen fun _ w' => .ok (.slice base (sLen + n) sCap) w' := by
  cases base with
  | none => simp [Builtin.append_, run_underlying hd, run_underlying hu, sizeOf, typeInfo, hi, Builtin.lenOf, hfit, hx]
  | some a => simp [Builtin.append_, run_underlying hd, run_underlying hu, sizeOf, typeInfo, hi, Builtin.lenOf, hfit, hx]

theorem append_grows {P : Program} {t u ty e e' : TypeId} {i : TypeInfo} {zv : Value} (hd : P.underlying t = some (.slice e)) (hu : P.underlying u = some (.slice e')) (hi : P.info? e = some i) (hz : i.zero = some zv)
    {base xb : Option Addr} {sLen sCap n xc : Nat} {olds news : List Value}
    (hx : (Builtin.firstCells i.size n (.slice xb n xc)).run P w.drew = .ok news.toArray w.drew) (ho : (Builtin.firstCells i.size sLen (.slice base sLen sCap)).run P w.drew = .ok olds.toArray w.drew)
    (hfit : sCap < sLen + n) (hb : (sLen + n) * (i.bytes + 1) ≤ 1099511627776) :
    ∃ newCap, sLen + n ≤ newCap ∧ (Builtin.append_ #[t, u] ty #[.slice base sLen sCap, .slice xb n xc]).run P w =
      .ok (.slice (some ⟨w.heap.size, 0, none⟩) (sLen + n) newCap) (w.drew.alloc (.cells (olds.toArray ++ news.toArray ++ Builtin.zeroCells zv.cells (newCap - (sLen + n))) e)) := by
  have h1 : ¬ sLen + n ≤ sCap := by omega
  have hm : (sLen + n) * i.bytes + (sLen + n) = (sLen + n) * (i.bytes + 1) := by rw [Nat.mul_succ]
  have h2 : ¬ (((sLen + n : Nat) : Int) > 9223372036854775807) := by omega
  have h3 := growslice_fits (need := sLen + n) (old := sCap) (bytes := i.bytes) hfit (by omega)
  have h4 : ¬ (281474976710656 < Builtin.nextslicecap (sLen + n) sCap * i.bytes) := by omega
  refine ⟨sLen + n + (w.tape w.drawn (.appendCap (sLen + n) sCap e)) % (9223372036854775808 - (sLen + n)), Nat.le_add_right _ _, ?_⟩
  have h2' : ¬ (9223372036854775807 < (sLen : Int) + (n : Int)) := by omega
  simp [Builtin.append_, run_underlying hd, run_underlying hu, sizeOf, typeInfo, hi, Builtin.lenOf, h1, h2', h4, Question.forced, Question.cut, hx, ho, zeroValue, hz, newRow]
  congr 2
  apply Array.ext'
  simp

theorem zeroCells_size (z : Array Value) (n : Nat) : (Builtin.zeroCells z n).size = n * z.size := by simp [Builtin.zeroCells]

theorem cellsOk_oneCell {xs : List V} {vals : List Value} (h : VRels fid G w xs vals) (hc : cellsOk xs = true) : ∀ x ∈ vals, x.oneCell' = true := oneCells_of_rel h hc

/-- A new row out of nothing. -/
theorem Did.newRow (hR : RelH C fid G H w) {low : Nat} {r : Result Next} {es : Nat} {ds : List V} {c : Array Value} {vals rest : List Value} {e : TypeId} {cap : Nat} (hes : 0 < es) (hn : 0 < ds.length) (hu : ∀ d ∈ ds, (cellsV d).length = es)
    (hc : c.toList = vals ++ rest) (hv : VRels fid G w (ds.flatMap cellsV) vals) (hcap : cap * es ≤ c.size) (hle : ds.length ≤ cap)
    (hr : r = .ok (.value (.slice (some ⟨w.heap.size, 0, none⟩) ds.length cap)) (w.drew.alloc (.cells c e))) :
    Did C fid G H w low r (.sref H.length es 0 ds.length ds.length) (H ++ [.row es ds false]) low := by
  have hR' : RelH C fid G H w.drew := hR.sameHeap rfl
  have hE : ∀ m n, Ext G w G w.drew m n := fun m n => Ext.sameHeap (w := w) (w' := w.drew) rfl rfl rfl rfl m n
  have hv' := hv.ext hR (hE 0 0)
  refine ⟨_, _, ⟨upd G.β H.length ⟨w.drew.heap.size, ds.length, c.size, false⟩, G.I⟩, .inl hr, hR'.push _ _ ds.length c.size (rowObj hR' hes hn hu hc hv'), fun m _ => (hE m H.length).trans (Ext.push hR' _ _ _ m), ?_, Nat.le_refl _, by simp⟩
  exact .sref _ es 0 _ _ ⟨w.drew.heap.size, ds.length, c.size, false⟩ _ _ _ (upd_same _ _ _) (Nat.le_refl _) (fun _ => ⟨by simp, rfl, by rw [Nat.zero_add]; exact hcap, hle⟩)

theorem s_append (hR : RelH C fid G H w) (hρ : OpdRel C fid vars G w ev ρ) {a b : Operand} {t u e e' : TypeId} {i : TypeInfo} {zv : Value} {args : Array Operand} {ts : Array TypeId} (ho : o.op = .call { callee := .builtin .append, args, argTypes := ts })
    (ha : args = #[a, b]) (ht : ts = #[t, u]) {aa ab : Opd} (h1 : C.opd vars a = some aa) (h2 : C.opd vars b = some ab) (hd : C.P.underlying t = some (.slice e)) (hu : C.P.underlying u = some (.slice e')) (hi : C.P.info? e = some i)
    (hz : i.zero = some zv) (hzs : zv.cells.size = i.size) (hpos : 0 < i.size) (he : step ev H low (.append i.size i.bytes aa ab) = some (v, H', low')) : Did C fid G H w low ((execOp ρ o).run C.P w) v H' low' := by
  subst ha; subst ht
  have hx := hρ a aa h1
  have hy := hρ b ab h2
  have hrun : (execOp ρ o).run C.P w = ((Builtin.append_ #[t, u] o.type #[ρ a, ρ b]).run C.P w).andThen fun z w' => .ok (.value z) w' := by
    rw [s_builtin_run ho]
    simp only [builtin, Sem.run_bind, List.map_toArray, List.map_cons, List.map_nil]
    rfl
  simp only [step] at he
  split at he
  · rename_i xs hxs
    obtain ⟨yad, ycap, hyv, hyc⟩ := elems_sound hR hy hxs
    split at he
    · rename_i xs' H1 low1 hf
      -- the news in memory
      have news : ∃ vals G1, Froze C fid G H w low G1 H1 low1 ∧ VRels fid G1 w (xs'.flatMap cellsV) vals ∧ xs'.length = xs.length ∧ (∀ d ∈ xs', (cellsV d).length = i.size) ∧
          ∀ w'', w''.heap = w.heap → (Builtin.firstCells i.size xs.length (.slice yad xs.length ycap)).run C.P w'' = .ok vals.toArray w'' := by
        by_cases hne : xs = []
        · subst hne
          simp only [freezeVs, Option.some.injEq, Prod.mk.injEq] at hf
          obtain ⟨rfl, rfl, rfl⟩ := hf
          refine ⟨[], G, .refl hR _, .nil, rfl, by simp, fun w'' _ => ?_⟩
          cases yad with
          | none => simp [Builtin.firstCells]
          | some ad => simp [Builtin.firstCells, loadCells, loadCellsFrom]
        · obtain ⟨bb, off, vals, rfl, hcells, hrel, hu'⟩ := hyc hne
          obtain ⟨G1, f1, k1, l1, u1⟩ := freezeVs_cells hR hrel hf
          refine ⟨vals, G1, f1, k1, l1, u1 _ hu', fun w'' hw => ?_⟩
          exact firstCells_run (fun j x hj => by rw [cell_of_block (w := w) (w' := w'') (by rw [hw])]; exact hcells j x hj) (by rw [hrel.length, flat_length hu'])
      obtain ⟨vals, G1, f1, k1, l1, u1, hfirst⟩ := news
      rw [hyv] at hrun
      have hx1 := hx.ext hR (f1.ext 0 (Nat.zero_le _))
      refine Did.afterFreeze f1 ?_
      have hR1 := f1.rel
      split at he
      · -- nothing is appended
        rename_i hemp
        have hxs0 : xs = [] := by
          have : xs' = [] := by simpa using hemp
          rw [this] at l1; exact List.length_eq_zero_iff.1 l1.symm
        have hv0 : vals = [] := by
          have := k1.length
          have e0 : xs' = [] := by simpa using hemp
          rw [e0] at this; exact List.length_eq_zero_iff.1 (by simpa using this)
        subst hxs0; subst hv0
        have same : ∀ base n cap, ρ a = .slice base n cap → n ≤ cap → (execOp ρ o).run C.P w = .ok (.value (ρ a)) w := by
          intro base n cap hs hle
          rw [hrun, hs, append_fits (P := C.P) hd hu hi (hfirst w rfl) (by simpa using hle)]
          cases base <;> simp [storeCells]
        split at he
        · rename_i e1
          simp only [Option.some.injEq, Prod.mk.injEq] at he
          obtain ⟨rfl, rfl, rfl⟩ := he
          rw [e1] at hx1
          exact .same hR1 (same _ _ _ hx1.nil0Inv (Nat.le_refl _)) hx1
        · rename_i e1
          simp only [Option.some.injEq, Prod.mk.injEq] at he
          obtain ⟨rfl, rfl, rfl⟩ := he
          rw [e1] at hx1
          obtain ⟨ad, hxx⟩ := hx1.empInv
          exact .same hR1 (same _ _ _ hxx (Nat.le_refl _)) hx1
        · rename_i es' ds e1
          simp only [Option.some.injEq, Prod.mk.injEq] at he
          obtain ⟨rfl, rfl, rfl⟩ := he
          rw [e1] at hx1
          obtain ⟨ad, cap, hxx, hcap, -⟩ := hx1.listInv
          exact .same hR1 (same _ _ _ hxx hcap) hx1
        · rename_i l es' off len tag e1
          rw [e1] at hx1
          split at he
          · rename_i es'' ds fz hl
            split at he
            · rename_i htag
              simp only [Option.some.injEq, Prod.mk.injEq] at he
              obtain ⟨rfl, rfl, rfl⟩ := he
              obtain ⟨h0, ad, nn, cap, hbb, hle0, had, hxx⟩ := hx1.srefInv
              obtain ⟨ob, hob, hr⟩ := hR1.obj l h0 hbb
              rw [hl] at hob; cases hob
              obtain ⟨rfl, rfl, -, hlc⟩ := had (hr.1.trans htag)
              exact .same hR1 (same _ _ _ hxx hlc) hx1
            · cases he
          · cases he
        · cases he
      · rename_i hemp
        have hne : 0 < xs'.length := by
          rcases Nat.eq_zero_or_pos xs'.length with q | q
          · exact absurd (by simpa using List.length_eq_zero_iff.1 q) hemp
          · exact q
        split at he
        · cases he
        · rename_i hok
          have hok : cellsOk (xs'.flatMap cellsV) = true := by simpa using hok
          have h1c := cellsOk_oneCell k1 hok
          have hvl : vals.length = xs.length * i.size := by rw [k1.length, flat_length u1, l1]
          -- a new row out of an empty slice
          have fresh : ∀ base, ρ a = .slice base 0 0 → xs'.length * (i.bytes + 1) ≤ 1099511627776 → Did C fid G1 H1 w low1 ((execOp ρ o).run C.P w) (.sref H1.length i.size 0 xs'.length xs'.length) (H1 ++ [.row i.size xs' false]) low1 := by
            intro base hs hb
            have hold : (Builtin.firstCells i.size 0 (.slice base 0 0)).run C.P w.drew = .ok ([] : List Value).toArray w.drew := by
              cases base <;> simp [Builtin.firstCells, loadCells, loadCellsFrom]
            obtain ⟨newCap, hcap, hrr⟩ := append_grows (P := C.P) (t := t) (u := u) (ty := o.type) hd hu hi hz (hfirst w.drew rfl) hold (by omega) (by rw [Nat.zero_add, ← l1]; exact hb)
            rw [Nat.zero_add, ← l1] at hrr hcap
            refine Did.newRow hR1 (cap := newCap) (e := e) hpos hne u1 (vals := vals) (rest := (Builtin.zeroCells zv.cells (newCap - xs'.length)).toList) ?_ k1 ?_ hcap (by rw [hrun, hs, ← l1, hrr]; rfl)
            · simp
            · simp only [Array.size_append, List.size_toArray, List.length_nil, Nat.zero_add, zeroCells_size, hvl, hzs, ← l1, ← Nat.add_mul]
              rw [Nat.add_sub_cancel' hcap]; exact Nat.le_refl _
          split at he
          · rename_i e1
            split at he
            · rename_i hb
              simp only [Option.some.injEq, Prod.mk.injEq] at he
              obtain ⟨rfl, rfl, rfl⟩ := he
              rw [e1] at hx1
              exact fresh _ hx1.nil0Inv hb
            · cases he
          · rename_i e1
            split at he
            · rename_i hb
              simp only [Option.some.injEq, Prod.mk.injEq] at he
              obtain ⟨rfl, rfl, rfl⟩ := he
              rw [e1] at hx1
              obtain ⟨ad, hxx⟩ := hx1.empInv
              exact fresh _ hxx hb
            · cases he
          · rename_i l es' off len tag e1
            rw [e1] at hx1
            split at he
            · rename_i es'' ds hl
              split at he
              · rename_i hcond
                obtain ⟨rfl, rfl, htag, rfl, rfl, hb⟩ := hcond
                simp only [Option.some.injEq, Prod.mk.injEq] at he
                obtain ⟨rfl, rfl, rfl⟩ := he
                obtain ⟨h0, ad, nn, cap, hbb, hle0, had, hxx⟩ := hx1.srefInv
                obtain ⟨ob, hob, hr⟩ := hR1.obj l h0 hbb
                rw [hl] at hob; cases hob
                obtain ⟨htg, hdpos, hfz, hes, huu, c, ee, ovals, rest, hc, hcs, hcv, hrel⟩ := hr
                obtain ⟨rfl, rfl, hcsz, hlc⟩ := had (htg.trans htag)
                rw [Nat.zero_mul] at hxx
                rw [Nat.zero_add] at hcsz
                have hdl : ds.length = nn := htag
                have hol : ovals.length = nn * i.size := by rw [hrel.length, flat_length huu, hdl]
                have hcl : c.size = ovals.length + rest.length := by rw [← Array.length_toList, hcv, List.length_append]
                have hu2 : ∀ d ∈ ds ++ xs', (cellsV d).length = i.size := fun d hd => by
                  rcases List.mem_append.1 hd with q | q
                  · exact huu d q
                  · exact u1 d q
                have hrl2 : VRels fid G1 w ((ds ++ xs').flatMap cellsV) (ovals ++ vals) := by rw [List.flatMap_append]; exact hrel.append k1
                by_cases hfit : nn + xs.length ≤ cap
                · -- in place
                  have hmul : (nn + xs.length) * i.size ≤ c.size := Nat.le_trans (Nat.mul_le_mul_right _ hfit) (by rw [← hcs]; exact hcsz)
                  rw [Nat.add_mul] at hmul
                  have hst := run_storeCells_at C.P h0.b (nn * i.size) ee vals 0 c w hc (by omega) h1c
                  have hval : (execOp ρ o).run C.P w = .ok (.value (.slice (some ⟨h0.b, 0, none⟩) (nn + xs.length) cap)) (w.setRow h0.b (c.toList.take (nn * i.size) ++ vals ++ c.toList.drop (nn * i.size + vals.length)).toArray) := by
                    rw [hrun, hxx, append_fits (P := C.P) hd hu hi (hfirst w rfl) hfit]
                    simp only [Addr.add_lit, Nat.zero_add]
                    simp only [Nat.add_zero] at hst
                    rw [hst]; rfl
                  have hx' : Ext G1 w ⟨upd G1.β l { h0 with tag := nn + xs'.length }, G1.I⟩ (w.setRow h0.b (c.toList.take (nn * i.size) ++ vals ++ c.toList.drop (nn * i.size + vals.length)).toArray) l H1.length :=
                    Ext.write hR1 hbb hfz rfl (by simp only; omega) (fun q => by omega) rfl (setRow_size _ _) (fun b hne => setRow_other hne _) rfl rfl rfl
                  refine ⟨_, _, _, .inl hval, RelH.write hR1 hbb hfz (h' := { h0 with tag := nn + xs'.length }) rfl hfz (by simp only; omega) (fun q => by omega) rfl (setRow_size _ _) (fun b hne => setRow_other hne _) (.row i.size (ds ++ xs') false) ?_,
                    fun m hm => hx'.le (Nat.le_trans hm (Nat.min_le_right _ _)) (Nat.le_refl _), ?_, Nat.min_le_left _ _, by simp⟩
                  · refine ⟨by simp [hdl], by simp; omega, hfz, hes, hu2, _, ee, ovals ++ vals, rest.drop vals.length, setRow_heap w h0.b c _ ee _ hc, ?_, ?_, hrl2.ext hR1 hx'⟩
                    · show h0.csz = _
                      rw [hcs]
                      simp only [List.size_toArray, List.length_append, List.length_take, List.length_drop, Array.length_toList]
                      omega
                    · rw [List.toList_toArray, hcv, ← hol, List.take_left, List.drop_append, List.append_assoc, List.append_assoc]
                      congr 2
                      rw [List.drop_of_length_le (by omega), List.nil_append]
                      congr 1; omega
                  · rw [← l1]
                    exact .sref l i.size 0 _ _ { h0 with tag := nn + xs'.length } _ _ _ (upd_same _ _ _) (Nat.le_refl _) (fun _ => ⟨by simp, rfl, by rw [Nat.zero_add]; exact hcsz, by omega⟩)
                · -- into a new block
                  have hold : (Builtin.firstCells i.size nn (.slice (some ⟨h0.b, 0, none⟩) nn cap)).run C.P w.drew = .ok ovals.toArray w.drew :=
                    firstCells_run (CellsAt.of_row (w := w.drew) hc hcv) hol
                  obtain ⟨newCap, hcap, hrr⟩ := append_grows (P := C.P) (t := t) (u := u) (ty := o.type) hd hu hi hz (hfirst w.drew rfl) hold (by omega) (by rw [← l1]; exact hb)
                  have hR2 : RelH C fid G1 H1 w.drew := hR1.sameHeap rfl
                  have hE : ∀ m n, Ext G1 w G1 w.drew m n := fun m n => Ext.sameHeap (w := w) (w' := w.drew) rfl rfl rfl rfl m n
                  obtain ⟨r1, r2⟩ := RelH.move hR2 hbb hfz (.cells (ovals.toArray ++ vals.toArray ++ Builtin.zeroCells zv.cells (newCap - (nn + xs.length))) e) (nn + xs'.length)
                    (ovals.toArray ++ vals.toArray ++ Builtin.zeroCells zv.cells (newCap - (nn + xs.length))).size (by omega) (by omega) (.row i.size (ds ++ xs') false)
                    ⟨by simp [hdl], by simp; omega, rfl, hes, hu2, _, e, ovals ++ vals, (Builtin.zeroCells zv.cells (newCap - (nn + xs.length))).toList, alloc_new _ _, rfl, by simp, VRels.mono (G := G1) (w := w.drew) (G' := ⟨upd G1.β l ⟨w.drew.heap.size, nn + xs'.length, (ovals.toArray ++ vals.toArray ++ Builtin.zeroCells zv.cells (newCap - (nn + xs.length))).size, false⟩, G1.I⟩) (by
                      intro x hh e0
                      by_cases hxl : x = l
                      · subst hxl; rw [hbb] at e0; cases e0
                        exact ⟨_, upd_same _ _ _, by simp only; omega, fun q => by omega, fun q => by simp only at q; omega, fun q => by rw [hfz] at q; cases q⟩
                      · exact ⟨hh, by simp only [upd_other hxl]; exact e0, Nat.le_refl _, id, fun _ => ⟨rfl, rfl⟩, fun _ => rfl⟩) (fun b hi' => ⟨hi', alloc_old (w := w.drew) (hR2.imm b hi').1⟩) (hrl2.ext hR1 (hE 0 0))⟩
                  refine ⟨_, _, _, .inl (by rw [hrun, hxx, hrr]; rfl), r1, fun m hm => (hE m H1.length).trans (r2.le (Nat.le_trans hm (Nat.min_le_right _ _)) (Nat.le_refl _)), ?_, Nat.min_le_left _ _, by simp⟩
                  rw [← l1]
                  refine .sref l i.size 0 _ _ ⟨w.drew.heap.size, nn + xs'.length, _, false⟩ _ _ _ (upd_same _ _ _) (Nat.le_refl _) (fun _ => ⟨by simp, rfl, ?_, by omega⟩)
                  simp only [Array.size_append, List.size_toArray, zeroCells_size, hvl, hol, hzs, ← Nat.add_mul, Nat.zero_add]
                  have e9 : nn + xs.length + (newCap - (nn + xs'.length)) = newCap := by omega
                  rw [e9]; exact Nat.le_refl _
              · cases he
            · cases he
          · cases he
    · cases he
  · cases he

end Go.Abs
