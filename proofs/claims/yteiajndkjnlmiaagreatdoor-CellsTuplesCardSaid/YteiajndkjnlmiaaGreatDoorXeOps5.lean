/- Addresses of elements, lengths, min and max, aggregates, slices that are made. -/
import Derived.Test.YteiajndkjnlmiaaGreatDoorXeOps4
set_option linter.unusedVariables false
set_option linter.unusedSimpArgs false
namespace Go.Abs
open Go
variable {C : Ctx} {fid : Nat → Nat} {w w' : World} {G G' : Gh} {H : Heap}
variable {vars : List Nat} {ev : Opd → V} {ρ : Operand → Value} {low low' : Nat} {v : V} {H' : Heap} {pos : String} {aop : AOp} {o : Oper}

theorem PRels.split : ∀ {vs us : List V} {zs : List Value} {I : Nat → Prop}, PRels w I (vs ++ us) zs → ∃ xs ys, zs = xs ++ ys ∧ PRels w I vs xs ∧ PRels w I us ys
  | [], us, zs, _, h => ⟨[], zs, rfl, .nil, h⟩
  | v :: vs, us, _, _, .cons _ x _ xs h hs => by
    obtain ⟨as, bs, rfl, h1, h2⟩ := PRels.split (vs := vs) hs
    exact ⟨x :: as, bs, rfl, .cons v x vs as h h1, h2⟩

theorem s_indexAddr (hR : RelH C fid G H w) (hρ : OpdRel C fid vars G w ev ρ) {t : TypeId} {x i : Operand} (ho : o.op = .indexAddr t x i) (hc : C.op0 vars pos o.op = some aop) (he : step ev H low aop = some (v, H', low')) :
    Did C fid G H w low ((execOp ρ o).run C.P w) v H' low' := by
  rw [ho] at hc
  simp only [Ctx.op0] at hc
  split at hc
  · rename_i e ax bx hd h2 h3
    split at hc
    · rename_i n hn
      split at hc
      · cases hc
      · simp only [Option.some.injEq] at hc; subst hc
        have sz := sizeOf_run (C := C) hn
        have hx := hρ x ax h2
        have hi := hρ i bx h3
        simp only [step] at he
        split at he
        · rename_i j ej
          obtain ⟨k, m, em, hm, hmj⟩ := natOf_inv ej
          rw [em] at hi
          have hrun : ∀ ad len cap, ρ x = .slice (some ad) len cap → j < len → (execOp ρ o).run C.P w = .ok (.value (.pointer (some (ad.add (j * n))))) w := by
            intro ad len cap hxx hlt
            have hcond : 0 ≤ m ∧ m < (len : Int) := by omega
            unfold execOp; rw [ho]
            simp only [hxx, hi.intInv, Instr.indexAt, asIntOf, Sem.run_bind, Sem.run_pure, Result.andThen_ok, run_underlying hd, hcond, and_self, if_true, sz, hmj]
          split at he
          · rename_i es' ds e1
            split at he
            · rename_i hes
              subst hes
              obtain ⟨d, hdd, he⟩ := Option.map_eq_some_iff.1 he
              simp only [Prod.mk.injEq] at he
              obtain ⟨rfl, rfl, rfl⟩ := he
              rw [e1] at hx
              obtain ⟨ad, cap, hxx, hcap, hq⟩ := hx.listInv
              obtain ⟨hlt, hde⟩ := List.getElem?_eq_some_iff.1 hdd
              rcases hq with rfl | ⟨b, o', vals, rfl, hI, hcell, hu, hr⟩
              · simp at hlt
              · refine .same hR (hrun _ _ _ hxx hlt) ?_
                rw [Addr.add_lit]
                have h2 : ds.drop j = d :: ds.drop (j + 1) := by rw [← hde]; exact List.drop_eq_getElem_cons hlt
                have h3 := hr.drop (j * es')
                rw [← flat_drop hu, h2, List.flatMap_cons] at h3
                obtain ⟨xs, ys, hxy, hr1, -⟩ := h3.split
                have hat := hcell.drop (j * es')
                rw [hxy] at hat
                have hat1 : CellsAt w b (o' + j * es') xs := fun a c hac => hat a c (by
                  rw [List.getElem?_append_left (by
                    rcases Nat.lt_or_ge a xs.length with q | q
                    · exact q
                    · simp [List.getElem?_eq_none q] at hac)]; exact hac)
                exact .pin _ 0 b (o' + j * es') xs hI hat1 hr1
            · cases he
          · rename_i l es' off len tag e1
            split at he
            · rename_i es'' ds fz hl
              split at he
              · rename_i hcond
                obtain ⟨rfl, rfl, htag, hjl, hol⟩ := hcond
                simp only [Option.some.injEq, Prod.mk.injEq] at he
                obtain ⟨rfl, rfl, rfl⟩ := he
                rw [e1] at hx
                obtain ⟨h0, ad, nn, cap, hbb, hle0, had, hxx⟩ := hx.srefInv
                obtain ⟨ob, hob, hr⟩ := hR.obj l h0 hbb
                rw [hl] at hob; cases hob
                obtain ⟨rfl, rfl, hcs, hlc⟩ := had (hr.1.trans htag)
                refine .same hR (hrun _ _ _ hxx hjl) (.eptr l _ (off + j) 0 tag h0 _ hbb hle0 (fun _ => ?_))
                rw [Addr.add_lit, Nat.add_zero, Nat.add_mul]
              · cases he
            · cases he
          · cases he
        · cases he
    · cases hc
  · cases hc

theorem s_builtin_run {b : Builtin} {args : Array Operand} {ts : Array TypeId} (ho : o.op = .call { callee := .builtin b, args, argTypes := ts }) :
    (execOp ρ o).run C.P w = (builtin b ts o.type (args.map fun | .const _ => true | _ => false) (args.map ρ)).run C.P w := by
  unfold execOp; rw [ho]
  simp only [resolve, invoke, Sem.run_bind, Sem.run_pure, Result.andThen_ok]
  rfl

theorem toList_two {α : Type} {a : Array α} {x y : α} (h : a.toList = [x, y]) : a = #[x, y] := by
  cases a; simp_all
theorem toList_one {α : Type} {a : Array α} {x : α} (h : a.toList = [x]) : a = #[x] := by
  cases a; simp_all

theorem s_minmax (hR : RelH C fid G H w) (hρ : OpdRel C fid vars G w ev ρ) {b : Builtin} {x y : Operand} {args : Array Operand} {ts : Array TypeId} (ho : o.op = .call { callee := .builtin b, args, argTypes := ts })
    (ha : args = #[x, y]) {mx : Bool} (hb : b = if mx then .max else .min) {ax ay : Opd} (h1 : C.opd vars x = some ax) (h2 : C.opd vars y = some ay) (he : step ev H low (.minmax mx ax ay) = some (v, H', low')) :
    Did C fid G H w low ((execOp ρ o).run C.P w) v H' low' := by
  subst ha
  have hx := hρ x ax h1
  have hy := hρ y ay h2
  simp only [step] at he
  split at he
  · rename_i k a k' b' e1 e2
    split at he
    · rename_i hk
      subst hk
      simp only [Option.some.injEq, Prod.mk.injEq] at he
      obtain ⟨rfl, rfl, rfl⟩ := he
      rw [e1] at hx; rw [e2] at hy
      refine .same hR (x := .int k (if mx then max a b' else min a b')) ?_ (.p _ _ (.int _ _))
      rw [s_builtin_run ho]
      subst hb
      cases mx
      · have hm : (if b' < a then b' else a) = min a b' := by
          rw [Int.min_def]; split <;> split <;> omega
        simp [builtin, Builtin.min_, Builtin.min2, hx.intInv, hy.intInv, hm]
      · have hm : (if a < b' then b' else a) = max a b' := by
          rw [Int.max_def]; split <;> split <;> omega
        simp [builtin, Builtin.max_, Builtin.max2, hx.intInv, hy.intInv, hm]
    · cases he
  · cases he

theorem s_len (hR : RelH C fid G H w) (hρ : OpdRel C fid vars G w ev ρ) {x : Operand} {t : TypeId} {args : Array Operand} {ts : Array TypeId} (ho : o.op = .call { callee := .builtin .len, args, argTypes := ts })
    (ha : args = #[x]) (ht : ts = #[t]) {ax : Opd} (h1 : C.opd vars x = some ax) {kind : Nat} (hk : match kind with | 0 => C.P.underlying t = some .string | 1 => ∃ e, C.P.underlying t = some (.slice e) | _ => ∃ k e, C.P.underlying t = some (.map k e))
    (he : step ev H low (.len kind ax) = some (v, H', low')) : Did C fid G H w low ((execOp ρ o).run C.P w) v H' low' := by
  subst ha; subst ht
  have hx := hρ x ax h1
  have hrun : ∀ (n : Nat), (Builtin.len_ #[t] o.type #[ρ x]).run C.P w = .ok (goInt n) w → Did C fid G H w low ((execOp ρ o).run C.P w) (.int .i64 n) H low := by
    intro n hn
    refine .same hR (x := .int .i64 n) ?_ (.p _ _ (.int _ _))
    rw [s_builtin_run ho]
    simp only [builtin, Sem.run_bind]
    have e : Array.map ρ #[x] = #[ρ x] := by simp
    rw [e, hn]; rfl
  simp only [step] at he
  split at he
  · rename_i s e1
    simp only [Option.some.injEq, Prod.mk.injEq] at he
    obtain ⟨rfl, rfl, rfl⟩ := he
    rw [e1] at hx
    refine hrun s.length ?_
    have hk : C.P.underlying t = some .string := hk
    simp only [Builtin.len_, hx.strInv, Sem.run_bind, run_underlying hk, Result.andThen_ok, List.getElem?_toArray, List.getElem?_cons_zero, Sem.run_pure]
    rfl
  · rename_i e1
    simp only [Option.some.injEq, Prod.mk.injEq] at he
    obtain ⟨rfl, rfl, rfl⟩ := he
    rw [e1] at hx
    obtain ⟨e, hk⟩ : ∃ e, C.P.underlying t = some (.slice e) := hk
    refine hrun 0 ?_
    simp only [Builtin.len_, hx.nil0Inv, Sem.run_bind, run_underlying hk, Result.andThen_ok, List.getElem?_toArray, List.getElem?_cons_zero, Sem.run_pure]
  · rename_i e1
    simp only [Option.some.injEq, Prod.mk.injEq] at he
    obtain ⟨rfl, rfl, rfl⟩ := he
    rw [e1] at hx
    obtain ⟨e, hk⟩ : ∃ e, C.P.underlying t = some (.slice e) := hk
    obtain ⟨ad, hxx⟩ := hx.empInv
    refine hrun 0 ?_
    simp only [Builtin.len_, hxx, Sem.run_bind, run_underlying hk, Result.andThen_ok, List.getElem?_toArray, List.getElem?_cons_zero, Sem.run_pure]
  · rename_i es ds e1
    simp only [Option.some.injEq, Prod.mk.injEq] at he
    obtain ⟨rfl, rfl, rfl⟩ := he
    rw [e1] at hx
    obtain ⟨e, hk⟩ : ∃ e, C.P.underlying t = some (.slice e) := hk
    obtain ⟨ad, cap, hxx, -, -⟩ := hx.listInv
    refine hrun ds.length ?_
    simp only [Builtin.len_, hxx, Sem.run_bind, run_underlying hk, Result.andThen_ok, List.getElem?_toArray, List.getElem?_cons_zero, Sem.run_pure]
  · rename_i l es off len tag e1
    obtain ⟨e, hk⟩ : ∃ e, C.P.underlying t = some (.slice e) := hk
    split at he
    · rename_i es' ds fz hl
      split at he
      · rename_i hcond
        simp only [Option.some.injEq, Prod.mk.injEq] at he
        obtain ⟨rfl, rfl, rfl⟩ := he
        rw [e1] at hx
        obtain ⟨h0, ad, nn, cap, hbb, hle0, had, hxx⟩ := hx.srefInv
        obtain ⟨ob, hob, hr⟩ := hR.obj l h0 hbb
        rw [hl] at hob; cases hob
        obtain ⟨rfl, rfl, hcs, hlc⟩ := had (hr.1.trans hcond.2)
        refine hrun nn ?_
        simp only [Builtin.len_, hxx, Sem.run_bind, run_underlying hk, Result.andThen_ok, List.getElem?_toArray, List.getElem?_cons_zero, Sem.run_pure]
      · cases he
    · cases he
  · rename_i e1
    simp only [Option.some.injEq, Prod.mk.injEq] at he
    obtain ⟨rfl, rfl, rfl⟩ := he
    rw [e1] at hx
    obtain ⟨k, e, hk⟩ : ∃ k e, C.P.underlying t = some (.map k e) := hk
    refine hrun 0 ?_
    simp only [Builtin.len_, hx.nilmInv, Sem.run_bind, run_underlying hk, Result.andThen_ok, List.getElem?_toArray, List.getElem?_cons_zero, Sem.run_pure]
    rfl
  · rename_i l e1
    obtain ⟨k, e, hk⟩ : ∃ k e, C.P.underlying t = some (.map k e) := hk
    split at he
    · rename_i ents hl
      simp only [Option.some.injEq, Prod.mk.injEq] at he
      obtain ⟨rfl, rfl, rfl⟩ := he
      rw [e1] at hx
      obtain ⟨h0, hbb, -, hxx⟩ := hx.mapInv
      obtain ⟨ob, hob, hr⟩ := hR.obj l h0 hbb
      rw [hl] at hob; cases hob
      obtain ⟨-, -, es, clk, hm, hk1, hk2⟩ := hr
      have hlen := hk1.length
      simp only [List.length_map, Array.length_toList] at hlen
      refine hrun ents.length ?_
      have hg : (getObj h0.b).run C.P w = .ok (.map es clk) w := by simp [getObj, Sem.run, hm]
      simp only [Builtin.len_, hxx, Sem.run_bind, run_underlying hk, Result.andThen_ok, List.getElem?_toArray, List.getElem?_cons_zero, hg, Sem.run_pure, hlen]
    · cases he
  · cases he

end Go.Abs
