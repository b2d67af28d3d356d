/- copy, maps. -/
import Derived.Test.YteiajndkjnlmiaaGreatDoorXeOps9
set_option linter.unusedVariables false
set_option linter.unusedSimpArgs false
namespace Go.Abs
open Go
variable {C : Ctx} {fid : Nat → Nat} {w w' : World} {G G' : Gh} {H : Heap}
variable {vars : List Nat} {ev : Opd → V} {ρ : Operand → Value} {low low' : Nat} {v : V} {H' : Heap} {pos : String} {aop : AOp} {o : Oper}

theorem plainCells_app : ∀ {a b : List V}, plainCells (a ++ b) = (plainCells a && plainCells b)
  | [], b => by simp [plainCells]
  | x :: a, b => by simp [plainCells, plainCells_app (a := a), Bool.and_assoc]

theorem s_copy (hR : RelH C fid G H w) (hρ : OpdRel C fid vars G w ev ρ) {a b : Operand} {t u e e' : TypeId} {n : Nat} {args : Array Operand} {ts : Array TypeId} (ho : o.op = .call { callee := .builtin .copy, args, argTypes := ts })
    (ha : args = #[a, b]) (ht : ts = #[t, u]) {aa ab : Opd} (h1 : C.opd vars a = some aa) (h2 : C.opd vars b = some ab) (hd : C.P.underlying t = some (.slice e)) (hn : C.sizeOf e = some n)
    (he : step ev H low (.copy n aa ab) = some (v, H', low')) : Did C fid G H w low ((execOp ρ o).run C.P w) v H' low' := by
  subst ha; subst ht
  have hx := hρ a aa h1
  have hy := hρ b ab h2
  have hrun : (execOp ρ o).run C.P w = ((Builtin.copy_ #[t, u] o.type #[ρ a, ρ b]).run C.P w).andThen fun z w' => .ok (.value z) w' := by
    rw [s_builtin_run ho]
    simp only [builtin, Sem.run_bind, List.map_toArray, List.map_cons, List.map_nil]
    rfl
  have zero : ∀ base, (∃ xs, elems H n (ev ab) = some xs) → ρ a = .slice base 0 0 → Did C fid G H w low ((execOp ρ o).run C.P w) (.int .i64 0) H low := by
    rintro base ⟨xs, hxs⟩ hs
    obtain ⟨yad, ycap, hyv, hyc⟩ := elems_sound hR hy hxs
    refine .same hR (x := .int .i64 0) ?_ (.p _ _ (.int _ _))
    rw [hrun, hs, hyv]
    cases yad <;> cases base <;> simp [Builtin.copy_, run_underlying hd, Builtin.lenOf, Builtin.firstCells, loadCells, loadCellsFrom, sizeOf_run (C := C) hn, storeCells, goInt]
  simp only [step] at he
  split at he
  · rename_i xs e1 hxs
    simp only [Option.some.injEq, Prod.mk.injEq] at he
    obtain ⟨rfl, rfl, rfl⟩ := he
    rw [e1] at hx
    exact zero _ ⟨_, hxs⟩ hx.nil0Inv
  · rename_i xs e1 hxs
    simp only [Option.some.injEq, Prod.mk.injEq] at he
    obtain ⟨rfl, rfl, rfl⟩ := he
    rw [e1] at hx
    obtain ⟨ad, hxx⟩ := hx.empInv
    exact zero _ ⟨_, hxs⟩ hxx
  · rename_i l es' off len tag xs e1 hxs
    split at he
    · rename_i es'' ds hl
      split at he
      · rename_i hcond
        obtain ⟨rfl, rfl, htag, hol, hpl⟩ := hcond
        simp only [Option.some.injEq, Prod.mk.injEq] at he
        obtain ⟨rfl, rfl, rfl⟩ := he
        rw [e1] at hx
        obtain ⟨yad, ycap, hyv, hyc⟩ := elems_sound hR hy hxs
        obtain ⟨h0, ad, nn, cap, hbb, hle0, had, hxx⟩ := hx.srefInv
        obtain ⟨ob, hob, hr⟩ := hR.obj l h0 hbb
        rw [hl] at hob; cases hob
        obtain ⟨htg, hdpos, hfz, hes, huu, c, ee, ovals, rest, hc, hcs, hcv, hrel⟩ := hr
        obtain ⟨rfl, rfl, -, -⟩ := had (htg.trans htag)
        -- what is copied
        have key : ∃ zs, (Builtin.firstCells es'' (Nat.min xs.length nn) (.slice yad xs.length ycap)).run C.P w = .ok zs.toArray w ∧ VRels fid G w ((xs.take nn).flatMap cellsV) zs ∧ ((xs.take nn).flatMap cellsV).length = (xs.take nn).length * es'' ∧ ∀ d ∈ xs.take nn, (cellsV d).length = es'' := by
          by_cases hne : xs = []
          · subst hne
            refine ⟨[], ?_, by simpa using VRels.nil, by simp, by simp⟩
            cases yad <;> simp [Builtin.firstCells, loadCells, loadCellsFrom]
          · obtain ⟨bb, o', vals, rfl, hcells, hrl, hu'⟩ := hyc hne
            have hu2 : ∀ d ∈ xs.take nn, (cellsV d).length = es'' := fun d hd => hu' d (List.mem_of_mem_take hd)
            refine ⟨vals.take (nn * es''), ?_, by rw [flat_take hu']; exact hrl.take _, flat_length hu2, hu2⟩
            have hvl : vals.length = xs.length * es'' := by rw [hrl.length, flat_length hu']
            have e2 : (vals.take (nn * es'')).length = Nat.min xs.length nn * es'' := by
              rw [List.length_take, hvl, Nat.mul_min_mul_right, Nat.min_comm]
            have := run_loadCells_list (P := C.P) w ⟨bb, o', none⟩ (vals.take (nn * es'')) (fun j v hj => by rw [Addr.add_lit]; exact (hcells.take _) j v hj)
            rw [e2] at this
            exact this
        obtain ⟨zs, hz1, hz2, hz3, hz4⟩ := key
        have hok : ∀ x ∈ zs, x.oneCell' = true := by
          refine oneCells_of_rel hz2 (plain_cellsOk ?_)
          have : plainCells ((xs.take nn ++ xs.drop nn).flatMap cellsV) = true := by rw [List.take_append_drop]; exact hpl
          rw [List.flatMap_append, plainCells_app, Bool.and_eq_true] at this
          exact this.1
        have hzl := hz2.length
        have hxl : (xs.take nn).length = min nn xs.length := by simp
        have hdl : ds.length = tag := htag
        have hmul : (off + min nn xs.length) * es'' ≤ ds.length * es'' := Nat.mul_le_mul_right _ (by have := Nat.min_le_left nn xs.length; omega)
        rw [Nat.add_mul] at hmul
        have hovl : ovals.length = ds.length * es'' := by rw [hrel.length, flat_length huu]
        have hcl : c.size = ovals.length + rest.length := by rw [← Array.length_toList, hcv, List.length_append]
        have hst := run_storeCells_at C.P h0.b (off * es'') ee zs 0 c w hc (by rw [hzl, hz3, hxl]; omega) hok
        obtain ⟨G', r1, r2⟩ := write_row hR hbb hl (ds' := ds.take off ++ xs.take nn ++ ds.drop (off + min nn xs.length)) (by simp only [List.length_append, List.length_take, List.length_drop]; omega)
          (fun d hd => by
            rcases List.mem_append.1 hd with q | q
            · rcases List.mem_append.1 q with q | q
              · exact huu d (List.mem_of_mem_take q)
              · exact hz4 d q
            · exact huu d (List.mem_of_mem_drop q)) (o := off * es'') hz2 (by rw [hz3, hxl]; omega)
          (fun vals hv => by
            rw [List.flatMap_append, List.flatMap_append, flat_take huu, flat_drop huu, hzl, hz3, hxl, ← Nat.add_mul]
            exact ((hv.take _).append hz2).append (hv.drop _)) hc
        refine ⟨_, _, G', .inl ?_, r1, fun m hm => r2.le (Nat.le_trans hm (Nat.min_le_right _ _)) (Nat.le_refl _), .p _ _ (.int _ _), Nat.min_le_left _ _, by simp⟩
        rw [hrun, hxx, hyv]
        simp only [Nat.add_zero] at hst
        have e9 : xs.length.min nn = min nn xs.length := Nat.min_comm _ _
        rw [e9] at hz1
        simp [Builtin.copy_, run_underlying hd, Builtin.lenOf, sizeOf_run (C := C) hn, e9, hz1, hst, goInt]
      · cases he
    · cases he
  · cases he

/-! ### maps -/

theorem checkKey_run {k : TypeId} {kd : Nat} (hk : C.kindT k = some kd) (em : Bool) (n : Nat) (x : Value) : (Instr.checkKey em (n + 1) k x).run C.P w = .ok () w := by
  unfold Ctx.kindT at hk
  unfold Instr.checkKey
  split at hk <;> rename_i hd <;> first | (cases hk; done) | (rw [Sem.run_bind, run_underlying hd]; rfl)

theorem sameNow_of {k : TypeId} {kd : Nat} {d : TypeDesc} (hk : C.kindT k = some kd) (hd : C.P.underlying k = some d) {a b : V} {e : Bool} {x y : Value} (ha : VRel fid G w a x) (hb : VRel fid G w b y) (he : eqK kd a b = some e) :
    Instr.sameNow d x y = some e ∧ (e = true → Instr.sameBits 10000 y x = true) := by
  unfold Ctx.kindT at hk
  rw [hd] at hk
  unfold eqK at he
  split at he
  · split at he
    · rename_i hkk
      simp only [Option.some.injEq] at he; subst he; subst hkk
      rw [ha.intInv, hb.intInv]
      cases d <;> simp at hk
      refine ⟨by simp [Instr.sameNow], fun h => ?_⟩
      simp at h; subst h
      simp [Instr.sameBits]
    · cases he
  · simp only [Option.some.injEq] at he; subst he
    rw [ha.strInv, hb.strInv]
    cases d <;> simp at hk
    refine ⟨by simp [Instr.sameNow, beq_toListBytes, ByteArray.toList_eq], fun h => ?_⟩
    simp at h; subst h
    simp [Instr.sameBits, beq_toListBytes, ByteArray.toList_eq]
  · simp only [Option.some.injEq] at he; subst he
    rw [ha.boolInv, hb.boolInv]
    cases d <;> simp at hk
    refine ⟨by simp [Instr.sameNow], fun h => ?_⟩
    simp at h; subst h
    simp [Instr.sameBits]
  · cases he

theorem findNow_of {k : TypeId} {kd : Nat} {d : TypeDesc} (hk : C.kindT k = some kd) (hd : C.P.underlying k = some d) {a : V} {x : Value} (ha : VRel fid G w a x) : ∀ {ents : List (V × V)} {es : List MapEntry} (i : Nat) {r : Option V},
    VRels fid G w (ents.map (·.1)) (es.map (·.key)) → VRels fid G w (ents.map (·.2)) (es.map (·.val)) → findEnt kd a ents = some r →
    match r with
    | none => Instr.findNow d x es i = some none
    | some u => ∃ j y, Instr.findNow d x es i = some (some (i + j, y)) ∧ VRel fid G w u y ∧ (∃ e, es[j]? = some e ∧ Instr.sameBits 10000 e.key x = true)
  | [], [], i, r, _, _, h => by
    simp only [findEnt, Option.some.injEq] at h; subst h
    rfl
  | [], _ :: _, _, _, h, _, _ => by simp at h; cases h
  | _ :: _, [], _, _, h, _, _ => by simp at h; cases h
  | (k', u) :: ents, e :: es, i, r, hks, hvs, h => by
    simp only [List.map_cons] at hks hvs
    cases hks with
    | cons _ _ _ _ hk1 hks =>
      cases hvs with
      | cons _ _ _ _ hv1 hvs =>
        simp only [findEnt] at h
        split at h
        · rename_i he
          simp only [Option.some.injEq] at h; subst h
          obtain ⟨hs, hb⟩ := sameNow_of hk hd ha hk1 he
          exact ⟨0, e.val, by simp [Instr.findNow, hs], hv1, e, rfl, hb rfl⟩
        · rename_i he
          obtain ⟨hs, -⟩ := sameNow_of hk hd ha hk1 he
          have ih := findNow_of hk hd ha (i + 1) hks hvs h
          cases r with
          | none => simpa [Instr.findNow, hs] using ih
          | some u' =>
            obtain ⟨j, y, h1, h2, e', h3, h4⟩ := ih
            refine ⟨j + 1, y, ?_, h2, e', by simpa using h3, h4⟩
            have : i + (j + 1) = i + 1 + j := by omega
            rw [this]
            simpa [Instr.findNow, hs] using h1
        · cases h

theorem findKey_run {k : TypeId} {d : TypeDesc} (hd : C.P.underlying k = some d) {x : Value} {es : List MapEntry} {r : Option (Nat × Value)} (h : Instr.findNow d x es 0 = some r) : (Instr.findKey k x es).run C.P w = .ok r w := by
  unfold Instr.findKey
  simp only [Sem.run_bind, run_underlying hd, Result.andThen_ok, h, Sem.run_pure]

theorem kindT_und {k : TypeId} {kd : Nat} (hk : C.kindT k = some kd) : ∃ d, C.P.underlying k = some d := by
  unfold Ctx.kindT at hk
  split at hk <;> rename_i hd <;> first | exact ⟨_, hd⟩ | cases hk

theorem zeroV_run {t : TypeId} {z : V} (hz : C.zeroV t = some z) (hu : isU z = false) : ∃ zv, (∀ w, (zeroValue t).run C.P w = .ok zv w) ∧ ∀ (G : Gh) (w : World), VRel fid G w z zv := by
  unfold Ctx.zeroV at hz
  split at hz
  · rename_i i hi
    split at hz
    · rename_i zv hzv
      refine ⟨zv, fun w => ?_, fun G w => .p _ _ ((constV_sound zv hz).resolve_left (by rintro rfl; simp [isU] at hu))⟩
      simp only [zeroValue, Sem.run_bind, run_typeInfo (P := C.P) w hi, Result.andThen_ok, hzv, Sem.run_pure]
    · cases hz
  · cases hz

theorem getObj_map {r : Nat} {es : Array MapEntry} {clk : Nat} (h : w.heap[r]? = some (.map es clk)) : (getObj r).run C.P w = .ok (.map es clk) w := by simp [getObj, Sem.run, h]
theorem setObj_map {r : Nat} {es : Array MapEntry} {clk : Nat} (o : Obj) (h : w.heap[r]? = some (.map es clk)) : (setObj r o).run C.P w = .ok () { w with heap := w.heap.setIfInBounds r o } := by simp [setObj, Sem.run, h]

theorem s_lookup (hR : RelH C fid G H w) (hρ : OpdRel C fid vars G w ev ρ) {t : TypeId} {x i : Operand} {ok : Bool} (ho : o.op = .lookup t x i ok) (hc : C.op0 vars pos o.op = some aop) (he : step ev H low aop = some (v, H', low')) :
    Did C fid G H w low ((execOp ρ o).run C.P w) v H' low' := by
  rw [ho] at hc
  simp only [Ctx.op0] at hc
  split at hc
  · rename_i k e ax bx hd h1 h2
    split at hc
    · rename_i kd z hkd hz
      split at hc
      · cases hc
      · rename_i hzu
        simp only [Option.some.injEq] at hc; subst hc
        have hx := hρ x ax h1
        have hi := hρ i bx h2
        obtain ⟨zv, hzr, hzrel⟩ := zeroV_run (fid := fid) hz (by simpa using hzu)
        obtain ⟨dk, hdk⟩ := kindT_und hkd
        have hrun : (execOp ρ o).run C.P w = ((Instr.lookup t (ρ x) (ρ i) ok).run C.P w).andThen fun z w' => .ok (.value z) w' := by
          unfold execOp; rw [ho]; simp only [Sem.run_bind]; rfl
        have res : ∀ (u : V) (y : Value) (b : Bool), VRel fid G w u y → VRel fid G w (if ok then .tup [u, .bool b] else u) (if ok then .tuple #[y, .bool b] else y) := by
          intro u y b h
          cases ok
          · exact h
          · exact .tup _ [y, .bool b] (.cons _ _ _ _ h (.cons _ _ _ _ (.p _ _ (.bool _)) .nil))
        simp only [step] at he
        split at he
        · rename_i e1
          simp only [Option.some.injEq, Prod.mk.injEq] at he
          obtain ⟨rfl, rfl, rfl⟩ := he
          rw [e1] at hx
          refine .same hR ?_ (res z zv false (hzrel G w))
          rw [hrun, hx.nilmInv]
          unfold Instr.lookup
          have hf := findKey_run (C := C) (w := w) hdk (x := ρ i) (es := []) (r := none) rfl
          simp only [Sem.run_bind, run_underlying hd, Result.andThen_ok, Sem.run_pure, checkKey_run hkd, hf, hzr]
        · rename_i l e1
          rw [e1] at hx
          obtain ⟨h0, hbb, -, hxx⟩ := hx.mapInv
          split at he
          · rename_i ents hl
            obtain ⟨ob, hob, hr⟩ := hR.obj l h0 hbb
            rw [hl] at hob; cases hob
            obtain ⟨-, -, es, clk, hm, hk1, hk2⟩ := hr
            split at he
            · rename_i u hfe
              simp only [Option.some.injEq, Prod.mk.injEq] at he
              obtain ⟨rfl, rfl, rfl⟩ := he
              obtain ⟨j, y, hf, hrel, -⟩ := findNow_of hkd hdk hi 0 hk1 hk2 hfe
              refine .same hR ?_ (res u y true hrel)
              rw [hrun, hxx]
              unfold Instr.lookup
              simp only [Sem.run_bind, run_underlying hd, Result.andThen_ok, Sem.run_pure, getObj_map hm, checkKey_run hkd, findKey_run (C := C) hdk hf]
            · rename_i hfe
              simp only [Option.some.injEq, Prod.mk.injEq] at he
              obtain ⟨rfl, rfl, rfl⟩ := he
              have hf := findNow_of hkd hdk hi 0 hk1 hk2 hfe
              refine .same hR ?_ (res z zv false (hzrel G w))
              rw [hrun, hxx]
              unfold Instr.lookup
              simp only [Sem.run_bind, run_underlying hd, Result.andThen_ok, Sem.run_pure, getObj_map hm, checkKey_run hkd, findKey_run (C := C) hdk hf, hzr]
            · cases he
          · cases he
        · cases he
    · cases hc
  · cases hc

theorem setEnt_none {kd : Nat} {k u : V} : ∀ {ents : List (V × V)}, findEnt kd k ents = some none → setEnt kd k u ents = ents ++ [(k, u)]
  | [], _ => rfl
  | (k', v) :: r, h => by
    simp only [findEnt] at h
    split at h
    · cases h
    · rename_i he
      simp [setEnt, he, setEnt_none h]
    · cases h

theorem setEnt_some {k : TypeId} {kd : Nat} {d : TypeDesc} (hk : C.kindT k = some kd) (hd : C.P.underlying k = some d) {a : V} {x : Value} (ha : VRel fid G w a x) {u : V} {y : Value} (hu : VRel fid G w u y) : ∀ {ents : List (V × V)} {es : List MapEntry} (i : Nat) {r : V} {j : Nat} {z : Value},
    VRels fid G w (ents.map (·.1)) (es.map (·.key)) → VRels fid G w (ents.map (·.2)) (es.map (·.val)) → findEnt kd a ents = some (some r) → Instr.findNow d x es i = some (some (i + j, z)) →
    VRels fid G w ((setEnt kd a u ents).map (·.1)) ((es.modify j fun e => { e with key := x, val := y }).map (·.key)) ∧ VRels fid G w ((setEnt kd a u ents).map (·.2)) ((es.modify j fun e => { e with key := x, val := y }).map (·.val))
  | [], [], i, r, j, z, _, _, h, _ => by simp [findEnt] at h
  | [], _ :: _, _, _, _, _, h, _, _, _ => by simp at h; cases h
  | _ :: _, [], _, _, _, _, h, _, _, _ => by simp at h; cases h
  | (k', u') :: ents, e :: es, i, r, j, z, hks, hvs, h, hf => by
    simp only [List.map_cons] at hks hvs
    cases hks with
    | cons _ _ _ _ hk1 hks =>
      cases hvs with
      | cons _ _ _ _ hv1 hvs =>
        simp only [findEnt] at h
        split at h
        · rename_i he
          obtain ⟨hs, -⟩ := sameNow_of hk hd ha hk1 he
          simp only [Instr.findNow, hs, Option.some.injEq, Prod.mk.injEq] at hf
          obtain rfl : j = 0 := by omega
          simp only [setEnt, he, if_true, List.map_cons, List.modify_zero_cons]
          exact ⟨.cons _ _ _ _ ha hks, .cons _ _ _ _ hu hvs⟩
        · rename_i he
          obtain ⟨hs, -⟩ := sameNow_of hk hd ha hk1 he
          simp only [Instr.findNow, hs] at hf
          have hfn := findNow_of hk hd ha (i + 1) hks hvs h
          obtain ⟨j', y', h1, -, -⟩ := hfn
          rw [h1] at hf
          simp only [Option.some.injEq, Prod.mk.injEq] at hf
          obtain ⟨hj, rfl⟩ := hf
          obtain rfl : j = j' + 1 := by omega
          have ih := setEnt_some hk hd ha hu (i + 1) hks hvs h h1
          have hne : ¬ (eqK kd a k' = some true) := by rw [he]; simp
          simp only [setEnt, hne, if_false, List.map_cons, List.modify_succ_cons]
          exact ⟨.cons _ _ _ _ hk1 ih.1, .cons _ _ _ _ hv1 ih.2⟩
        · cases h

theorem s_mapUpd (hR : RelH C fid G H w) (hρ : OpdRel C fid vars G w ev ρ) {t : TypeId} {m k x : Operand} (ho : o.op = .mapUpdate t m k x) (hc : C.op0 vars pos o.op = some aop) (he : step ev H low aop = some (v, H', low')) :
    Did C fid G H w low ((execOp ρ o).run C.P w) v H' low' := by
  rw [ho] at hc
  simp only [Ctx.op0] at hc
  split at hc
  · rename_i kt et am ak ax hd h1 h2 h3
    obtain ⟨kd, hkd, rfl⟩ := Option.map_eq_some_iff.1 hc
    have hm := hρ m am h1
    have hk := hρ k ak h2
    have hx := hρ x ax h3
    obtain ⟨dk, hdk⟩ := kindT_und hkd
    have hrun : (execOp ρ o).run C.P w = ((Instr.mapUpdate t (ρ m) (ρ k) (ρ x)).run C.P w).andThen fun _ w' => .ok .skip w' := by
      unfold execOp; rw [ho]; simp only [Sem.run_bind]; rfl
    simp only [step] at he
    split at he
    · rename_i u' H1 low1 hfz
      split at he
      · cases he
      · rename_i huu
        obtain ⟨G1, f1, k1⟩ := freezeV_sound hR hx hfz
        have hR1 := f1.rel
        have hE1 := f1.ext 0 (Nat.zero_le _)
        have hm1 := hm.ext hR hE1
        have hk1 := hk.ext hR hE1
        refine Did.afterFreeze f1 ?_
        split at he
        · rename_i l e1
          rw [e1] at hm1
          obtain ⟨h0, hbb, hz0, hxx⟩ := hm1.mapInv
          split at he
          · rename_i ents hl
            obtain ⟨ob, hob, hr⟩ := hR1.obj l h0 hbb
            rw [hl] at hob; cases hob
            obtain ⟨ht0, hf0, es, clk, hmem, hks, hvs⟩ := hr
            split at he
            · rename_i fr hfe
              simp only [Option.some.injEq, Prod.mk.injEq] at he
              obtain ⟨rfl, rfl, rfl⟩ := he
              have hlt : h0.b < w.heap.size := hR1.blk l h0 hbb
              have fin : ∀ (mo : Obj) (es' : Array MapEntry) (clk' : Nat), mo = .map es' clk' → (Instr.mapUpdate t (ρ m) (ρ k) (ρ x)).run C.P w = .ok () { w with heap := w.heap.setIfInBounds h0.b mo } →
                  VRels fid G1 w ((setEnt kd (ev ak) u' ents).map (·.1)) (es'.toList.map (·.key)) → VRels fid G1 w ((setEnt kd (ev ak) u' ents).map (·.2)) (es'.toList.map (·.val)) →
                  Did C fid G1 H1 w low1 ((execOp ρ o).run C.P w) .undef (H1.set l (.map (setEnt kd (ev ak) u' ents))) (min low1 l) := by
                rintro mo es' clk' rfl hrr hks' hvs'
                have hother : ∀ b, b ≠ h0.b → ({ w with heap := w.heap.setIfInBounds h0.b (.map es' clk') } : World).heap[b]? = w.heap[b]? := fun b hne => by
                  show (w.heap.setIfInBounds h0.b _)[b]? = _
                  rw [Array.getElem?_setIfInBounds_ne (Ne.symm hne)]
                have hself : ({ w with heap := w.heap.setIfInBounds h0.b (.map es' clk') } : World).heap[h0.b]? = some (.map es' clk') := by
                  show (w.heap.setIfInBounds h0.b _)[h0.b]? = _
                  simp [hlt]
                have hsz : ({ w with heap := w.heap.setIfInBounds h0.b (.map es' clk') } : World).heap.size = w.heap.size := by simp
                have hx' : Ext G1 w ⟨upd G1.β l h0, G1.I⟩ { w with heap := w.heap.setIfInBounds h0.b (.map es' clk') } l H1.length :=
                  Ext.write hR1 hbb hf0 rfl (Nat.le_refl _) id rfl hsz hother rfl rfl rfl
                refine ⟨undef, _, _, .inr ⟨by rw [hrun, hrr]; rfl, rfl⟩, RelH.write hR1 hbb hf0 rfl hf0 (Nat.le_refl _) id rfl hsz hother (.map (setEnt kd (ev ak) u' ents)) ⟨ht0, hf0, es', clk', hself, hks'.ext hR1 hx', hvs'.ext hR1 hx'⟩,
                  fun m hm => hx'.le (Nat.le_trans hm (Nat.min_le_right _ _)) (Nat.le_refl _), .undef _, Nat.min_le_left _ _, by simp⟩
              cases fr with
              | none =>
                have hf := findNow_of hkd hdk hk1 0 hks hvs hfe
                refine fin _ (es.push { key := ρ k, val := ρ x, born := clk }) (clk + 1) rfl ?_ ?_ ?_
                · unfold Instr.mapUpdate
                  simp only [hxx, Sem.run_bind, run_underlying hd, Result.andThen_ok, getObj_map hmem, checkKey_run hkd, findKey_run (C := C) hdk hf, setObj_map _ hmem]
                · rw [setEnt_none hfe]
                  simp only [List.map_append, List.map_cons, List.map_nil, Array.toList_push]
                  exact hks.append (.cons _ _ _ _ hk1 .nil)
                · rw [setEnt_none hfe]
                  simp only [List.map_append, List.map_cons, List.map_nil, Array.toList_push]
                  exact hvs.append (.cons _ _ _ _ k1 .nil)
              | some r =>
                obtain ⟨j, y, hf, -, en, hen, hbits⟩ := findNow_of hkd hdk hk1 0 hks hvs hfe
                obtain ⟨s1, s2⟩ := setEnt_some hkd hdk hk1 k1 0 hks hvs hfe hf
                rw [Nat.zero_add] at hf
                refine fin _ (es.modify j fun e => { e with key := ρ k, val := ρ x }) clk rfl ?_ (by simpa using s1) (by simpa using s2)
                have hen' : es[j]? = some en := by rw [← Array.getElem?_toList]; exact hen
                unfold Instr.mapUpdate
                simp only [hxx, Sem.run_bind, run_underlying hd, Result.andThen_ok, getObj_map hmem, checkKey_run hkd, findKey_run (C := C) hdk hf, hen', Option.map_some, Option.getD_some, Instr.keyThatStays, hbits, if_true, Sem.run_pure, setObj_map _ hmem]
            · cases he
          · cases he
        · cases he
    · cases he
  · cases hc

end Go.Abs
