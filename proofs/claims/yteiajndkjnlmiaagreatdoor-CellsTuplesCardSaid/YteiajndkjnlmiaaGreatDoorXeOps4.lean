/- Slicing, indexing, lengths, min and max. -/
import Derived.Test.YteiajndkjnlmiaaGreatDoorXeOps3
set_option linter.unusedVariables false
set_option linter.unusedSimpArgs false
namespace Go.Abs
open Go
variable {C : Ctx} {fid : Nat → Nat} {w w' : World} {G G' : Gh} {H : Heap}
variable {vars : List Nat} {ev : Opd → V} {ρ : Operand → Value} {low low' : Nat} {v : V} {H' : Heap} {pos : String} {aop : AOp} {o : Oper}

theorem sliceBound_run {x : Value} {k : IntKind} {m : Int} {n y : Nat} {code : BoundsCode} (hx : x = .int k m) (h0 : 0 ≤ m) (hn : m.toNat = n) (hy : n ≤ y) :
    (Instr.sliceBound x y code).run C.P w = .ok n w := by
  subst hx
  have : 0 ≤ m ∧ m ≤ (y : Int) := by omega
  simp only [Instr.sliceBound, asIntOf, Sem.run_bind, Sem.run_pure, Result.andThen_ok, this, and_self, if_true, hn]

/-- A bound that stands, or that is not written. -/
theorem bnd_inv (hρ : OpdRel C fid vars G w ev ρ) {x : Option Operand} {ax : Option Opd} (hx : C.opdO vars x = some ax) {d n : Nat} (h : bnd ev d ax = some n) :
    (x = none ∧ ax = none ∧ n = d) ∨ ∃ y k m, x = some y ∧ ρ y = .int k m ∧ 0 ≤ m ∧ m.toNat = n := by
  cases x with
  | none =>
    simp only [Ctx.opdO, Option.some.injEq] at hx; subst hx
    simp only [bnd, Option.some.injEq] at h
    exact .inl ⟨rfl, rfl, h.symm⟩
  | some y =>
    simp only [Ctx.opdO, Option.map_eq_some_iff] at hx
    obtain ⟨ay, hy, rfl⟩ := hx
    simp only [bnd] at h
    obtain ⟨k, m, e, hm, hn⟩ := natOf_inv h
    have := hρ y ay hy
    rw [e] at this
    exact .inr ⟨y, k, m, rfl, this.intInv, hm, hn⟩

/-- The bounds of a slice without a third index. -/
theorem sliceBounds_run (hρ : OpdRel C fid vars G w ev ρ) {lo hi : Option Operand} {alo ahi : Option Opd} (hlo : C.opdO vars lo = some alo) (hhi : C.opdO vars hi = some ahi) {isS : Bool} {len cap a b : Nat}
    (ha : bnd ev 0 alo = some a) (hb : bnd ev len ahi = some b) (h1 : a ≤ b) (h2 : b ≤ len) (h3 : len ≤ cap) :
    (Instr.sliceBounds isS len cap (lo.map ρ) (hi.map ρ) none).run C.P w = .ok (a, b, cap) w := by
  unfold Instr.sliceBounds
  have hB : ∀ (z : Nat × Nat × Nat), True := fun _ => trivial
  rcases bnd_inv hρ hhi hb with ⟨rfl, -, rfl⟩ | ⟨y, k, m, rfl, ey, hm, hn⟩
  · rcases bnd_inv hρ hlo ha with ⟨rfl, -, rfl⟩ | ⟨y', k', m', rfl, ey', hm', hn'⟩
    · simp only [Option.map_none, Sem.run_bind, Sem.run_pure, Result.andThen_ok]
    · simp only [Option.map_none, Option.map_some, Sem.run_bind, Sem.run_pure, Result.andThen_ok, sliceBound_run (C := C) ey' hm' hn' h1]
  · rcases bnd_inv hρ hlo ha with ⟨rfl, -, rfl⟩ | ⟨y', k', m', rfl, ey', hm', hn'⟩
    · simp only [Option.map_none, Option.map_some, Sem.run_bind, Sem.run_pure, Result.andThen_ok, sliceBound_run (C := C) ey hm hn (Nat.le_trans h2 h3)]
    · simp only [Option.map_some, Sem.run_bind, Sem.run_pure, Result.andThen_ok, sliceBound_run (C := C) ey hm hn (Nat.le_trans h2 h3), sliceBound_run (C := C) ey' hm' hn' h1]

/-- 's[lo:0:0]'. -/
theorem sliceBounds0_run (hρ : OpdRel C fid vars G w ev ρ) {lo hi mx : Option Operand} {alo ahi : Option Opd} {m : Opd} (hlo : C.opdO vars lo = some alo) (hhi : C.opdO vars hi = some ahi) (hmx : C.opdO vars mx = some (some m))
    {len cap a d : Nat} (ha : bnd ev 0 alo = some a) (hb : bnd ev d ahi = some 0) (hi0 : ahi ≠ none) (h1 : a ≤ 0) (hm : natOf (ev m) = some 0) :
    (Instr.sliceBounds true len cap (lo.map ρ) (hi.map ρ) (mx.map ρ)).run C.P w = .ok (0, 0, 0) w := by
  unfold Instr.sliceBounds
  obtain rfl : a = 0 := by omega
  rcases bnd_inv hρ hmx (d := 0) (show bnd ev 0 (some m) = some 0 from hm) with ⟨-, q, -⟩ | ⟨z, kz, mz, rfl, ez, hmz, hnz⟩
  · cases q
  · rcases bnd_inv hρ hhi hb with ⟨-, q, -⟩ | ⟨y, k, m', rfl, ey, hm', hn'⟩
    · exact absurd q hi0
    · rcases bnd_inv hρ hlo ha with ⟨rfl, -, -⟩ | ⟨y', k', m'', rfl, ey', hm'', hn''⟩
      · simp only [Option.map_none, Option.map_some, Sem.run_bind, Sem.run_pure, Result.andThen_ok, sliceBound_run (C := C) ez hmz hnz (Nat.zero_le _), sliceBound_run (C := C) ey hm' hn' (Nat.zero_le _)]
      · simp only [Option.map_some, Sem.run_bind, Sem.run_pure, Result.andThen_ok, sliceBound_run (C := C) ez hmz hnz (Nat.zero_le _), sliceBound_run (C := C) ey hm' hn' (Nat.zero_le _), sliceBound_run (C := C) ey' hm'' hn'' (Nat.zero_le _)]

theorem sliceAt_slice {t e : TypeId} (hd : C.P.underlying t = some (.slice e)) (x : Value) (lo hi mx : Option Value) : (Instr.sliceAt t x lo hi mx).run C.P w = (Instr.slice t x lo hi mx).run C.P w := by
  unfold Instr.sliceAt
  rw [Sem.run_bind, run_underlying hd]; rfl
theorem sliceAt_string {t : TypeId} (hd : C.P.underlying t = some .string) (x : Value) (lo hi mx : Option Value) : (Instr.sliceAt t x lo hi mx).run C.P w = (Instr.slice t x lo hi mx).run C.P w := by
  unfold Instr.sliceAt
  rw [Sem.run_bind, run_underlying hd]; rfl

theorem sizeOf_run {t n : Nat} (hs : C.sizeOf t = some n) (w : World) : (Go.sizeOf t).run C.P w = .ok n w := by
  simp only [Ctx.sizeOf, Option.map_eq_some_iff] at hs
  obtain ⟨i, hi, rfl⟩ := hs
  unfold Go.sizeOf
  rw [Sem.run_bind, run_typeInfo (P := C.P) w hi]; rfl

theorem extract_bytes (s : List UInt8) (a b : Nat) : (⟨⟨s⟩⟩ : ByteArray).extract a b = ⟨⟨(s.take b).drop a⟩⟩ := by
  apply ByteArray.ext
  rw [ByteArray.data_extract]
  apply Array.ext'
  simp [List.drop_take]

theorem list_shift {es : Nat} {ds : List V} {x : Value} (h : VRel fid G w (.list es ds) x) {a b : Nat} (hab : a ≤ b) (hb : b ≤ ds.length) :
    ∃ ad cap, x = .slice (some ad) ds.length cap ∧ ds.length ≤ cap ∧ VRel fid G w (.list es ((ds.take b).drop a)) (.slice (if cap = a then some ad else some (ad.add (a * es))) (b - a) (cap - a)) := by
  obtain ⟨ad, cap, rfl, hcap, hq⟩ := h.listInv
  refine ⟨ad, cap, rfl, hcap, ?_⟩
  have hlen : ((ds.take b).drop a).length = b - a := by simp; omega
  by_cases hn : (ds.take b).drop a = []
  · have hba : b - a = 0 := by rw [← hlen, hn]; rfl
    rw [hn, hba]
    split
    · exact .p _ _ (.list0 _ _ _)
    · exact .p _ _ (.list0 _ _ _)
  · have hlt : a < b := by
      rcases Nat.lt_or_ge a b with q | q
      · exact q
      · exact absurd (List.length_eq_zero_iff.1 (by omega)) hn
    rcases hq with rfl | ⟨bb, o', vals, rfl, hI, hc, hu, hr⟩
    · simp at hn
    · rw [if_neg (by omega), Addr.add_lit]
      have hu1 : ∀ d ∈ ds.take b, (cellsV d).length = es := fun d hd => hu d (List.mem_of_mem_take hd)
      have key := PRel.list (w := w) (I := G.I) es ((ds.take b).drop a) bb (o' + a * es) (cap - a) ((vals.take (b * es)).drop (a * es)) hI ((hc.take _).drop _)
        (fun d hd => hu1 d (List.mem_of_mem_drop hd)) (by
          rw [flat_drop hu1, flat_take hu]
          exact (hr.take _).drop _) (by rw [hlen]; omega)
      rw [hlen] at key
      exact .p _ _ key

theorem s_slice (hR : RelH C fid G H w) (hρ : OpdRel C fid vars G w ev ρ) {t : TypeId} {x : Operand} {lo hi mx : Option Operand} (ho : o.op = .slice t x lo hi mx) (hc : C.op0 vars pos o.op = some aop) (he : step ev H low aop = some (v, H', low')) :
    Did C fid G H w low ((execOp ρ o).run C.P w) v H' low' := by
  rw [ho] at hc
  have hrun : (execOp ρ o).run C.P w = ((Instr.sliceAt t (ρ x) (lo.map ρ) (hi.map ρ) (mx.map ρ)).run C.P w).andThen fun z w' => .ok (.value z) w' := by
    unfold execOp; rw [ho]; simp only [Sem.run_bind]; rfl
  simp only [Ctx.op0] at hc
  split at hc
  · rename_i ax alo ahi hd h2 hlo hhi hmx
    simp only [Option.some.injEq] at hc; subst hc
    have hv := hρ x ax h2
    simp only [step] at he
    split at he
    · rename_i s e1
      split at he
      · rename_i a b ha hb
        split at he
        · rename_i hle
          simp only [Option.some.injEq, Prod.mk.injEq] at he
          obtain ⟨rfl, rfl, rfl⟩ := he
          rw [e1] at hv
          obtain rfl : mx = none := by
            cases mx with
            | none => rfl
            | some y => simp [Ctx.opdO] at hmx
          have hb' := sliceBounds_run (C := C) (isS := false) (cap := s.length) hρ hlo hhi ha hb hle.1 hle.2 (Nat.le_refl _)
          refine .same hR (x := .string ⟨⟨(s.take b).drop a⟩⟩) ?_ (.p _ _ (.str _))
          rw [hrun, sliceAt_string hd, hv.strInv]
          unfold Instr.slice
          have esz : (⟨⟨s⟩⟩ : ByteArray).size = s.length := rfl
          simp only [Sem.run_bind, run_underlying hd, Result.andThen_ok, Option.map_none, Option.isSome_none, Bool.false_eq_true, if_false, esz, hb', Sem.run_pure, extract_bytes]
        · cases he
      · cases he
    · cases he
  · rename_i e ax alo ahi amx hd h2 hlo hhi hmx
    split at hc
    · rename_i n hn
      split at hc
      · cases hc
      · rename_i hn0
        simp only [Option.some.injEq] at hc; subst hc
        have hv := hρ x ax h2
        have sz := sizeOf_run (C := C) hn
        have hn0' : ahi.isNone = true → amx.isSome = true → False := by
          intro h1 h2; simp [h1, h2] at hn0
        have mxNone : ∀ {q : Option Opd}, C.opdO vars mx = some q → q = none → mx = none := by
          intro q h1 h2
          cases mx with
          | none => rfl
          | some y => simp [Ctx.opdO, h2] at h1
        have hiSome : ∀ {m : Opd}, amx = some m → ahi ≠ none := by
          rintro m rfl rfl
          exact hn0' rfl rfl
        have bounds0 : ∀ {cap : Nat}, 0 ≤ cap → bnd ev 0 alo = some 0 → bnd ev 0 ahi = some 0 → bnd ev 0 amx = some 0 → (Instr.sliceBounds true 0 0 (lo.map ρ) (hi.map ρ) (mx.map ρ)).run C.P w = .ok (0, 0, 0) w := by
          intro _ _ ha hb hm
          cases hq : amx with
          | none =>
            rw [hq] at hmx
            rw [mxNone hmx rfl]
            exact sliceBounds_run (C := C) hρ hlo hhi ha hb (Nat.le_refl _) (Nat.le_refl _) (Nat.le_refl _)
          | some m =>
            rw [hq] at hmx hm
            exact sliceBounds0_run (C := C) hρ hlo hhi hmx ha hb (hiSome hq) (Nat.le_refl _) hm
        simp only [step] at he
        split at he
        · rename_i e1
          split at he
          · rename_i ha hb hm
            simp only [Option.some.injEq, Prod.mk.injEq] at he
            obtain ⟨rfl, rfl, rfl⟩ := he
            rw [e1] at hv
            refine .same hR (x := .slice none 0 0) ?_ (.p _ _ .nil0)
            rw [hrun, sliceAt_slice hd, hv.nil0Inv]
            unfold Instr.slice
            simp only [Sem.run_bind, run_underlying hd, Result.andThen_ok, bounds0 (cap := 0) (Nat.zero_le _) ha hb hm, sz, Sem.run_pure]
            rfl
          · cases he
        · rename_i e1
          split at he
          · rename_i ha hb hm
            simp only [Option.some.injEq, Prod.mk.injEq] at he
            obtain ⟨rfl, rfl, rfl⟩ := he
            rw [e1] at hv
            obtain ⟨ad, hx⟩ := hv.empInv
            refine .same hR (x := .slice (some ad) 0 0) ?_ (.p _ _ (.emp _))
            rw [hrun, sliceAt_slice hd, hx]
            unfold Instr.slice
            simp only [Sem.run_bind, run_underlying hd, Result.andThen_ok, bounds0 (cap := 0) (Nat.zero_le _) ha hb hm, sz, Sem.run_pure]
            rfl
          · cases he
        · rename_i es' ds e1
          split at he
          · rename_i a b ha hb
            split at he
            · rename_i hle
              obtain ⟨hab, hbl, rfl⟩ := hle
              rw [e1] at hv
              obtain ⟨ad, cap, hx, hcap, hrel⟩ := list_shift hv hab hbl
              split at he
              · simp only [Option.some.injEq, Prod.mk.injEq] at he
                obtain ⟨rfl, rfl, rfl⟩ := he
                obtain rfl := mxNone hmx rfl
                refine .same hR ?_ hrel
                rw [hrun, sliceAt_slice hd, hx]
                unfold Instr.slice
                simp only [Sem.run_bind, run_underlying hd, Result.andThen_ok, Option.map_none, sliceBounds_run (C := C) hρ hlo hhi ha hb hab hbl hcap, sz, Sem.run_pure]
                rfl
              · rename_i m
                split at he
                · rename_i hm
                  obtain ⟨hm0, rfl⟩ := hm
                  simp only [Option.some.injEq, Prod.mk.injEq] at he
                  obtain ⟨rfl, rfl, rfl⟩ := he
                  refine .same hR (x := .slice (some ad) 0 0) ?_ (.p _ _ (.emp _))
                  rw [hrun, sliceAt_slice hd, hx]
                  unfold Instr.slice
                  simp only [Sem.run_bind, run_underlying hd, Result.andThen_ok, sliceBounds0_run (C := C) hρ hlo hhi hmx ha hb (hiSome rfl) hab hm0, sz, Sem.run_pure]
                  rfl
                · cases he
            · cases he
          · cases he
        · rename_i l es' off len tag e1
          split at he
          · rename_i a b ha hb
            split at he
            · rename_i hle
              obtain ⟨hab, hbl, rfl⟩ := hle
              rw [e1] at hv
              obtain ⟨h0, ad, nn, cap, hbb, hle0, had, hx⟩ := hv.srefInv
              split at he
              · split at he
                · rename_i es'' ds fz hl
                  split at he
                  · rename_i hcond
                    obtain ⟨htag, rfl, hlt⟩ := hcond
                    simp only [Option.some.injEq, Prod.mk.injEq] at he
                    obtain ⟨rfl, rfl, rfl⟩ := he
                    obtain rfl := mxNone hmx rfl
                    obtain ⟨ob, hob, hr⟩ := hR.obj l h0 hbb
                    rw [hl] at hob; cases hob
                    obtain ⟨rfl, rfl, hcs, hlc⟩ := had (hr.1.trans htag)
                    refine .same hR (x := .slice (some ⟨h0.b, (off + a) * es'', none⟩) (b - a) (cap - a)) ?_ (.sref l es'' (off + a) (b - a) tag h0 _ _ _ hbb hle0 (fun _ => ⟨rfl, rfl, ?_, by omega⟩))
                    · rw [hrun, sliceAt_slice hd, hx]
                      unfold Instr.slice
                      simp only [Sem.run_bind, run_underlying hd, Result.andThen_ok, Option.map_none, sliceBounds_run (C := C) hρ hlo hhi ha hb hab hbl hlc, sz, Sem.run_pure]
                      rw [if_neg (by omega), Option.map_some, Addr.add_lit, Nat.add_mul]
                    · have : off + a + (cap - a) = off + cap := by omega
                      rw [this]; exact hcs
                  · cases he
                · cases he
              · rename_i m
                split at he
                · rename_i hm
                  obtain ⟨hm0, rfl⟩ := hm
                  simp only [Option.some.injEq, Prod.mk.injEq] at he
                  obtain ⟨rfl, rfl, rfl⟩ := he
                  refine .same hR (x := .slice (some ad) 0 0) ?_ (.p _ _ (.emp _))
                  rw [hrun, sliceAt_slice hd, hx]
                  unfold Instr.slice
                  simp only [Sem.run_bind, run_underlying hd, Result.andThen_ok, sliceBounds0_run (C := C) hρ hlo hhi hmx ha hb (hiSome rfl) hab hm0, sz, Sem.run_pure]
                  rfl
                · cases he
            · cases he
          · cases he
        · cases he
    · cases hc
  · cases hc

end Go.Abs
