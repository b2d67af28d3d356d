/- copy, maps. -/
import Derived.Test.YtklgjajhccjbjaaGreatDoorP06
import Derived.Test.YtklgjajhccjbjaaGreatDoorP00
import Derived.RangeFuncRecord
import Derived.OrdersIn
import Derived.Test.YtklgjajhccjbjaaGreatDoorP03
import Derived.Laws.IdiomRangeMap
set_option linter.unusedVariables false
set_option linter.unusedSimpArgs false
namespace Go.Abs
open Go
variable {C : Ctx} {fid : Nat → Nat} {w w' : World} {G G' : Gh} {H : Heap}
variable {vars : List Nat} {ev : Opd → V} {ρ : Operand → Value} {low low' : Nat} {v : V} {H' : Heap} {pos : String} {aop : AOp} {o : Oper}

theorem plainCells_app : ∀ {a b : List V}, plainCells (a ++ b) = (plainCells a && plainCells b)
  | [], b => by simp [plainCells]
  | x :: a, b => by simp [plainCells, plainCells_app (a := a), Bool.and_assoc]

theorem s_copy (hR : RelH C fid G H w) (hρ : OpdRel C fid vars G w ev ρ) {a b : Operand} {t u e e' : TypeId} {n : Nat} {args : Array Operand} {ts : Array TypeId} (ho : o.op = .call { callee := .builtin .copy, args, argTypes := ts })
    (ha : args = #[a, b]) (ht : ts = #[t, u]) {aa ab : Opd} (h1 : C.opd vars a = some aa) (h2 : C.opd vars b = some ab) (hd : C.P.underlying t = some (.slice e)) (hn : C.sizeOf e = some n)
    (he : step ev H low (.copy n aa ab) = some (v, H', low')) : Did C fid G H w low ((execOp ρ o).run C.P w) v H' low' := by
  subst ha; subst ht
  have hx := hρ a aa h1
  have hy := hρ b ab h2
  have hrun : (execOp ρ o).run C.P w = ((Builtin.copy_ #[t, u] o.type #[ρ a, ρ b]).run C.P w).andThen fun z w' => .ok (.value z) w' := by
    rw [s_builtin_run ho]
    simp only [builtin, Sem.run_bind, List.map_toArray, List.map_cons, List.map_nil]
    rfl
  have zero : ∀ base, (∃ xs, elems H n (ev ab) = some xs) → ρ a = .slice base 0 0 → Did C fid G H w low ((execOp ρ o).run C.P w) (.int .i64 0) H low := by
    rintro base ⟨xs, hxs⟩ hs
    obtain ⟨yad, ycap, hyv, hyc⟩ := elems_sound hR hy hxs
    refine .same hR (x := .int .i64 0) ?_ (.p _ _ (.int _ _))
    rw [hrun, hs, hyv]
    cases yad <;> cases base <;> simp [Builtin.copy_, run_underlying hd, Builtin.lenOf, Builtin.firstCells, loadCells, loadCellsFrom, sizeOf_run (C := C) hn, storeCells, goInt]
  simp only [step] at he
  split at he
  · rename_i xs e1 hxs
    simp only [Option.some.injEq, Prod.mk.injEq] at he
    obtain ⟨rfl, rfl, rfl⟩ := he
    rw [e1] at hx
    exact zero _ ⟨_, hxs⟩ hx.nil0Inv
  · rename_i xs e1 hxs
    simp only [Option.some.injEq, Prod.mk.injEq] at he
    obtain ⟨rfl, rfl, rfl⟩ := he
    rw [e1] at hx
    obtain ⟨ad, hxx⟩ := hx.empInv
    exact zero _ ⟨_, hxs⟩ hxx
  · rename_i l es' off len tag xs e1 hxs
    split at he
    · rename_i es'' ds hl
      split at he
      · rename_i hcond
        obtain ⟨rfl, rfl, htag, hol, hpl⟩ := hcond
        simp only [Option.some.injEq, Prod.mk.injEq] at he
        obtain ⟨rfl, rfl, rfl⟩ := he
        rw [e1] at hx
        obtain ⟨yad, ycap, hyv, hyc⟩ := elems_sound hR hy hxs
        obtain ⟨h0, ad, nn, cap, hbb, hle0, had, hxx⟩ := hx.srefInv
        obtain ⟨ob, hob, hr⟩ := hR.obj l h0 hbb
        rw [hl] at hob; cases hob
        obtain ⟨htg, hdpos, hfz, hes, huu, c, ee, ovals, rest, hc, hcs, hcv, hrel⟩ := hr
        obtain ⟨rfl, rfl, -, -⟩ := had (htg.trans htag)
        -- what is copied
        have key : ∃ zs, (Builtin.firstCells es'' (Nat.min xs.length nn) (.slice yad xs.length ycap)).run C.P w = .ok zs.toArray w ∧ VRels fid G w ((xs.take nn).flatMap cellsV) zs ∧ ((xs.take nn).flatMap cellsV).length = (xs.take nn).length * es'' ∧ ∀ d ∈ xs.take nn, (cellsV d).length = es'' := by
          by_cases hne : xs = []
          · subst hne
            refine ⟨[], ?_, by simpa using VRels.nil, by simp, by simp⟩
            cases yad <;> simp [Builtin.firstCells, loadCells, loadCellsFrom]
          · obtain ⟨bb, o', vals, rfl, hcells, hrl, hu'⟩ := hyc hne
            have hu2 : ∀ d ∈ xs.take nn, (cellsV d).length = es'' := fun d hd => hu' d (List.mem_of_mem_take hd)
            refine ⟨vals.take (nn * es''), ?_, by rw [flat_take hu']; exact hrl.take _, flat_length hu2, hu2⟩
            have hvl : vals.length = xs.length * es'' := by rw [hrl.length, flat_length hu']
            have e2 : (vals.take (nn * es'')).length = Nat.min xs.length nn * es'' := by
              rw [List.length_take, hvl, Nat.mul_min_mul_right, Nat.min_comm]
            have := run_loadCells_list (P := C.P) w ⟨bb, o', none⟩ (vals.take (nn * es'')) (fun j v hj => by rw [Addr.add_lit]; exact (hcells.take _) j v hj)
            rw [e2] at this
            exact this
        obtain ⟨zs, hz1, hz2, hz3, hz4⟩ := key
        have hok : ∀ x ∈ zs, x.oneCell' = true := by
          refine oneCells_of_rel hz2 (plain_cellsOk ?_)
          have : plainCells ((xs.take nn ++ xs.drop nn).flatMap cellsV) = true := by rw [List.take_append_drop]; exact hpl
          rw [List.flatMap_append, plainCells_app, Bool.and_eq_true] at this
          exact this.1
        have hzl := hz2.length
        have hxl : (xs.take nn).length = min nn xs.length := by simp
        have hdl : ds.length = tag := htag
        have hmul : (off + min nn xs.length) * es'' ≤ ds.length * es'' := Nat.mul_le_mul_right _ (by have := Nat.min_le_left nn xs.length; omega)
        rw [Nat.add_mul] at hmul
        have hovl : ovals.length = ds.length * es'' := by rw [hrel.length, flat_length huu]
        have hcl : c.size = ovals.length + rest.length := by rw [← Array.length_toList, hcv, List.length_append]
        have hst := run_storeCells_at C.P h0.b (off * es'') ee zs 0 c w hc (by rw [hzl, hz3, hxl]; omega) hok
        obtain ⟨G', r1, r2⟩ := write_row hR hbb hl (ds' := ds.take off ++ xs.take nn ++ ds.drop (off + min nn xs.length)) (by simp only [List.length_append, List.length_take, List.length_drop]; omega)
          (fun d hd => by
            rcases List.mem_append.1 hd with q | q
            · rcases List.mem_append.1 q with q | q
              · exact huu d (List.mem_of_mem_take q)
              · exact hz4 d q
            · exact huu d (List.mem_of_mem_drop q)) (o := off * es'') hz2 (by rw [hz3, hxl]; omega)
          (fun vals hv => by
            rw [List.flatMap_append, List.flatMap_append, flat_take huu, flat_drop huu, hzl, hz3, hxl, ← Nat.add_mul]
            exact ((hv.take _).append hz2).append (hv.drop _)) hc
        refine ⟨_, _, G', .inl ?_, r1, fun m hm => r2.le (Nat.le_trans hm (Nat.min_le_right _ _)) (Nat.le_refl _), .p _ _ (.int _ _), Nat.min_le_left _ _, by simp⟩
        rw [hrun, hxx, hyv]
        simp only [Nat.add_zero] at hst
        have e9 : xs.length.min nn = min nn xs.length := Nat.min_comm _ _
        rw [e9] at hz1
        simp [Builtin.copy_, run_underlying hd, Builtin.lenOf, sizeOf_run (C := C) hn, e9, hz1, hst, goInt]
      · cases he
    · cases he
  · cases he

/-! ### maps -/

theorem checkKey_run {k : TypeId} {kd : Nat} (hk : C.kindT k = some kd) (em : Bool) (n : Nat) (x : Value) : (Instr.checkKey em (n + 1) k x).run C.P w = .ok () w := by
  unfold Ctx.kindT at hk
  unfold Instr.checkKey
  split at hk <;> rename_i hd <;> first | (cases hk; done) | (rw [Sem.run_bind, run_underlying hd]; rfl)

theorem sameNow_of {k : TypeId} {kd : Nat} {d : TypeDesc} (hk : C.kindT k = some kd) (hd : C.P.underlying k = some d) {a b : V} {e : Bool} {x y : Value} (ha : VRel fid G w a x) (hb : VRel fid G w b y) (he : eqK kd a b = some e) :
    Instr.sameNow d x y = some e ∧ (e = true → Instr.sameBits 10000 y x = true) := by
  unfold Ctx.kindT at hk
  rw [hd] at hk
  unfold eqK at he
  split at he
  · split at he
    · rename_i hkk
      simp only [Option.some.injEq] at he; subst he; subst hkk
      rw [ha.intInv, hb.intInv]
      cases d <;> simp at hk
      refine ⟨by simp [Instr.sameNow], fun h => ?_⟩
      simp at h; subst h
      simp [Instr.sameBits]
    · cases he
  · simp only [Option.some.injEq] at he; subst he
    rw [ha.strInv, hb.strInv]
    cases d <;> simp at hk
    refine ⟨by simp [Instr.sameNow, beq_toListBytes, ByteArray.toList_eq], fun h => ?_⟩
    simp at h; subst h
    simp [Instr.sameBits, beq_toListBytes, ByteArray.toList_eq]
  · simp only [Option.some.injEq] at he; subst he
    rw [ha.boolInv, hb.boolInv]
    cases d <;> simp at hk
    refine ⟨by simp [Instr.sameNow], fun h => ?_⟩
    simp at h; subst h
    simp [Instr.sameBits]
  · cases he

theorem findNow_of {k : TypeId} {kd : Nat} {d : TypeDesc} (hk : C.kindT k = some kd) (hd : C.P.underlying k = some d) {a : V} {x : Value} (ha : VRel fid G w a x) : ∀ {ents : List (V × V)} {es : List MapEntry} (i : Nat) {r : Option V},
    VRels fid G w (ents.map (·.1)) (es.map (·.key)) → VRels fid G w (ents.map (·.2)) (es.map (·.val)) → findEnt kd a ents = some r →
    match r with
    | none => Instr.findNow d x es i = some none
    | some u => ∃ j y, Instr.findNow d x es i = some (some (i + j, y)) ∧ VRel fid G w u y ∧ (∃ e, es[j]? = some e ∧ Instr.sameBits 10000 e.key x = true)
  | [], [], i, r, _, _, h => by
    simp only [findEnt, Option.some.injEq] at h; subst h
    rfl
  | [], _ :: _, _, _, h, _, _ => by simp at h; cases h
  | _ :: _, [], _, _, h, _, _ => by simp at h; cases h
  | (k', u) :: ents, e :: es, i, r, hks, hvs, h => by
    simp only [List.map_cons] at hks hvs
    cases hks with
    | cons _ _ _ _ hk1 hks =>
      cases hvs with
      | cons _ _ _ _ hv1 hvs =>
        simp only [findEnt] at h
        split at h
        · rename_i he
          simp only [Option.some.injEq] at h; subst h
          obtain ⟨hs, hb⟩ := sameNow_of hk hd ha hk1 he
          exact ⟨0, e.val, by simp [Instr.findNow, hs], hv1, e, rfl, hb rfl⟩
        · rename_i he
          obtain ⟨hs, -⟩ := sameNow_of hk hd ha hk1 he
          have ih := findNow_of hk hd ha (i + 1) hks hvs h
          cases r with
          | none => simpa [Instr.findNow, hs] using ih
          | some u' =>
            obtain ⟨j, y, h1, h2, e', h3, h4⟩ := ih
            refine ⟨j + 1, y, ?_, h2, e', by simpa using h3, h4⟩
            have : i + (j + 1) = i + 1 + j := by omega
            rw [this]
            simpa [Instr.findNow, hs] using h1
        · cases h

theorem findKey_run {k : TypeId} {d : TypeDesc} (hd : C.P.underlying k = some d) {x : Value} {es : List MapEntry} {r : Option (Nat × Value)} (h : Instr.findNow d x es 0 = some r) : (Instr.findKey k x es).run C.P w = .ok r w := by
  unfold Instr.findKey
  simp only [Sem.run_bind, run_underlying hd, Result.andThen_ok, h, Sem.run_pure]

theorem kindT_und {k : TypeId} {kd : Nat} (hk : C.kindT k = some kd) : ∃ d, C.P.underlying k = some d := by
  unfold Ctx.kindT at hk
  split at hk <;> rename_i hd <;> first | exact ⟨_, hd⟩ | cases hk

theorem zeroV_run {t : TypeId} {z : V} (hz : C.zeroV t = some z) (hu : isU z = false) : ∃ zv, (∀ w, (zeroValue t).run C.P w = .ok zv w) ∧ ∀ (G : Gh) (w : World), VRel fid G w z zv := by
  unfold Ctx.zeroV at hz
  split at hz
  · rename_i i hi
    split at hz
    · rename_i zv hzv
      refine ⟨zv, fun w => ?_, fun G w => .p _ _ ((constV_sound zv hz).resolve_left (by rintro rfl; simp [isU] at hu))⟩
      simp only [zeroValue, Sem.run_bind, run_typeInfo (P := C.P) w hi, Result.andThen_ok, hzv, Sem.run_pure]
    · cases hz
  · cases hz

theorem getObj_map {r : Nat} {es : Array MapEntry} {clk : Nat} (h : w.heap[r]? = some (.map es clk)) : (getObj r).run C.P w = .ok (.map es clk) w := by simp [getObj, Sem.run, h]
theorem setObj_map {r : Nat} {es : Array MapEntry} {clk : Nat} (o : Obj) (h : w.heap[r]? = some (.map es clk)) : (setObj r o).run C.P w = .ok () { w with heap := w.heap.setIfInBounds r o } := by simp [setObj, Sem.run, h]

theorem s_lookup (hR : RelH C fid G H w) (hρ : OpdRel C fid vars G w ev ρ) {t : TypeId} {x i : Operand} {ok : Bool} (ho : o.op = .lookup t x i ok) (hc : C.op0 vars pos o.op = some aop) (he : step ev H low aop = some (v, H', low')) :
    Did C fid G H w low ((execOp ρ o).run C.P w) v H' low' := by
  rw [ho] at hc
  simp only [Ctx.op0] at hc
  split at hc
  · rename_i k e ax bx hd h1 h2
    split at hc
    · rename_i kd z hkd hz
      split at hc
      · cases hc
      · rename_i hzu
        simp only [Option.some.injEq] at hc; subst hc
        have hx := hρ x ax h1
        have hi := hρ i bx h2
        obtain ⟨zv, hzr, hzrel⟩ := zeroV_run (fid := fid) hz (by simpa using hzu)
        obtain ⟨dk, hdk⟩ := kindT_und hkd
        have hrun : (execOp ρ o).run C.P w = ((Instr.lookup t (ρ x) (ρ i) ok).run C.P w).andThen fun z w' => .ok (.value z) w' := by
          unfold execOp; rw [ho]; simp only [Sem.run_bind]; rfl
        have res : ∀ (u : V) (y : Value) (b : Bool), VRel fid G w u y → VRel fid G w (if ok then .tup [u, .bool b] else u) (if ok then .tuple #[y, .bool b] else y) := by
          intro u y b h
          cases ok
          · exact h
          · exact .tup _ [y, .bool b] (.cons _ _ _ _ h (.cons _ _ _ _ (.p _ _ (.bool _)) .nil))
        simp only [step] at he
        split at he
        · rename_i e1
          simp only [Option.some.injEq, Prod.mk.injEq] at he
          obtain ⟨rfl, rfl, rfl⟩ := he
          rw [e1] at hx
          refine .same hR ?_ (res z zv false (hzrel G w))
          rw [hrun, hx.nilmInv]
          unfold Instr.lookup
          have hf := findKey_run (C := C) (w := w) hdk (x := ρ i) (es := []) (r := none) rfl
          simp only [Sem.run_bind, run_underlying hd, Result.andThen_ok, Sem.run_pure, checkKey_run hkd, hf, hzr]
        · rename_i l e1
          rw [e1] at hx
          obtain ⟨h0, hbb, -, hxx⟩ := hx.mapInv
          split at he
          · rename_i ents hl
            obtain ⟨ob, hob, hr⟩ := hR.obj l h0 hbb
            rw [hl] at hob; cases hob
            obtain ⟨-, -, es, clk, hm, hk1, hk2, -⟩ := hr
            split at he
            · rename_i u hfe
              simp only [Option.some.injEq, Prod.mk.injEq] at he
              obtain ⟨rfl, rfl, rfl⟩ := he
              obtain ⟨j, y, hf, hrel, -⟩ := findNow_of hkd hdk hi 0 hk1 hk2 hfe
              refine .same hR ?_ (res u y true hrel)
              rw [hrun, hxx]
              unfold Instr.lookup
              simp only [Sem.run_bind, run_underlying hd, Result.andThen_ok, Sem.run_pure, getObj_map hm, checkKey_run hkd, findKey_run (C := C) hdk hf]
            · rename_i hfe
              simp only [Option.some.injEq, Prod.mk.injEq] at he
              obtain ⟨rfl, rfl, rfl⟩ := he
              have hf := findNow_of hkd hdk hi 0 hk1 hk2 hfe
              refine .same hR ?_ (res z zv false (hzrel G w))
              rw [hrun, hxx]
              unfold Instr.lookup
              simp only [Sem.run_bind, run_underlying hd, Result.andThen_ok, Sem.run_pure, getObj_map hm, checkKey_run hkd, findKey_run (C := C) hdk hf, hzr]
            · cases he
          · cases he
        · cases he
    · cases hc
  · cases hc

theorem setEnt_none {kd : Nat} {k u : V} : ∀ {ents : List (V × V)}, findEnt kd k ents = some none → setEnt kd k u ents = ents ++ [(k, u)]
  | [], _ => rfl
  | (k', v) :: r, h => by
    simp only [findEnt] at h
    split at h
    · cases h
    · rename_i he
      simp [setEnt, he, setEnt_none h]
    · cases h

theorem setEnt_some {k : TypeId} {kd : Nat} {d : TypeDesc} (hk : C.kindT k = some kd) (hd : C.P.underlying k = some d) {a : V} {x : Value} (ha : VRel fid G w a x) {u : V} {y : Value} (hu : VRel fid G w u y) : ∀ {ents : List (V × V)} {es : List MapEntry} (i : Nat) {r : V} {j : Nat} {z : Value},
    VRels fid G w (ents.map (·.1)) (es.map (·.key)) → VRels fid G w (ents.map (·.2)) (es.map (·.val)) → findEnt kd a ents = some (some r) → Instr.findNow d x es i = some (some (i + j, z)) →
    VRels fid G w ((setEnt kd a u ents).map (·.1)) ((es.modify j fun e => { e with key := x, val := y }).map (·.key)) ∧ VRels fid G w ((setEnt kd a u ents).map (·.2)) ((es.modify j fun e => { e with key := x, val := y }).map (·.val))
  | [], [], i, r, j, z, _, _, h, _ => by simp [findEnt] at h
  | [], _ :: _, _, _, _, _, h, _, _, _ => by simp at h; cases h
  | _ :: _, [], _, _, _, _, h, _, _, _ => by simp at h; cases h
  | (k', u') :: ents, e :: es, i, r, j, z, hks, hvs, h, hf => by
    simp only [List.map_cons] at hks hvs
    cases hks with
    | cons _ _ _ _ hk1 hks =>
      cases hvs with
      | cons _ _ _ _ hv1 hvs =>
        simp only [findEnt] at h
        split at h
        · rename_i he
          obtain ⟨hs, -⟩ := sameNow_of hk hd ha hk1 he
          simp only [Instr.findNow, hs, Option.some.injEq, Prod.mk.injEq] at hf
          obtain rfl : j = 0 := by omega
          simp only [setEnt, he, if_true, List.map_cons, List.modify_zero_cons]
          exact ⟨.cons _ _ _ _ ha hks, .cons _ _ _ _ hu hvs⟩
        · rename_i he
          obtain ⟨hs, -⟩ := sameNow_of hk hd ha hk1 he
          simp only [Instr.findNow, hs] at hf
          have hfn := findNow_of hk hd ha (i + 1) hks hvs h
          obtain ⟨j', y', h1, -, -⟩ := hfn
          rw [h1] at hf
          simp only [Option.some.injEq, Prod.mk.injEq] at hf
          obtain ⟨hj, rfl⟩ := hf
          obtain rfl : j = j' + 1 := by omega
          have ih := setEnt_some hk hd ha hu (i + 1) hks hvs h h1
          have hne : ¬ (eqK kd a k' = some true) := by rw [he]; simp
          simp only [setEnt, hne, if_false, List.map_cons, List.modify_succ_cons]
          exact ⟨.cons _ _ _ _ hk1 ih.1, .cons _ _ _ _ hv1 ih.2⟩
        · cases h

theorem Stamps.push {es : Array MapEntry} {clk : Nat} (h : Stamps es clk) (x y : Value) : Stamps (es.push { key := x, val := y, born := clk }) (clk + 1) := by
  refine ⟨fun e he => ?_, ?_⟩
  · rw [Array.toList_push, List.mem_append] at he
    rcases he with he | he
    · exact Nat.lt_succ_of_lt (h.1 e he)
    · rw [List.mem_singleton] at he; subst he; exact Nat.lt_succ_self _
  · rw [Array.toList_push, List.map_append, List.nodup_append]
    refine ⟨h.2, by simp, fun a ha b hb => ?_⟩
    simp only [List.map_cons, List.map_nil, List.mem_singleton] at hb
    subst hb
    obtain ⟨e, he, rfl⟩ := List.mem_map.1 ha
    exact Nat.ne_of_lt (h.1 e he)

theorem born_modify (x y : Value) : ∀ (l : List MapEntry) (j : Nat), (l.modify j fun e => { e with key := x, val := y }).map (·.born) = l.map (·.born)
  | [], j => by cases j <;> simp
  | e :: l, 0 => by simp
  | e :: l, j + 1 => by simp [born_modify x y l j]

theorem Stamps.modify {es : Array MapEntry} {clk : Nat} (h : Stamps es clk) (j : Nat) (x y : Value) : Stamps (es.modify j fun e => { e with key := x, val := y }) clk := by
  have e1 : (es.modify j fun e => { e with key := x, val := y }).toList.map (·.born) = es.toList.map (·.born) := by
    rw [Array.toList_modify]; exact born_modify x y _ j
  refine ⟨fun e he => ?_, by rw [e1]; exact h.2⟩
  have : e.born ∈ es.toList.map (·.born) := by rw [← e1]; exact List.mem_map.2 ⟨e, he, rfl⟩
  obtain ⟨e', he', q⟩ := List.mem_map.1 this
  rw [← q]; exact h.1 e' he'

theorem s_mapUpd (hR : RelH C fid G H w) (hρ : OpdRel C fid vars G w ev ρ) {t : TypeId} {m k x : Operand} (ho : o.op = .mapUpdate t m k x ∨ o.op = .insert t m k x) (hc : C.op0 vars pos o.op = some aop) (he : step ev H low aop = some (v, H', low')) :
    Did C fid G H w low ((execOp ρ o).run C.P w) v H' low' := by
  have hc : C.op0 vars pos (.mapUpdate t m k x) = some aop := by
    rcases ho with ho | ho
    · rw [ho] at hc; exact hc
    · rw [ho] at hc; exact hc
  simp only [Ctx.op0] at hc
  split at hc
  · rename_i kt et am ak ax hd h1 h2 h3
    obtain ⟨kd, hkd, rfl⟩ := Option.map_eq_some_iff.1 hc
    have hm := hρ m am h1
    have hk := hρ k ak h2
    have hx := hρ x ax h3
    obtain ⟨dk, hdk⟩ := kindT_und hkd
    have hrun : (execOp ρ o).run C.P w = ((Instr.mapUpdate t (ρ m) (ρ k) (ρ x)).run C.P w).andThen fun _ w' => .ok .skip w' := by
      unfold execOp; rcases ho with ho | ho <;> (rw [ho]; simp only [Sem.run_bind]; rfl)
    simp only [step] at he
    split at he
    · rename_i u' H1 low1 hfz
      split at he
      · cases he
      · rename_i huu
        obtain ⟨G1, f1, k1⟩ := freezeV_sound hR hx hfz
        have hR1 := f1.rel
        have hE1 := f1.ext 0 (Nat.zero_le _)
        have hm1 := hm.ext hR hE1
        have hk1 := hk.ext hR hE1
        refine Did.afterFreeze f1 ?_
        split at he
        · rename_i l e1
          rw [e1] at hm1
          obtain ⟨h0, hbb, hz0, hxx⟩ := hm1.mapInv
          split at he
          · rename_i ents hl
            obtain ⟨ob, hob, hr⟩ := hR1.obj l h0 hbb
            rw [hl] at hob; cases hob
            obtain ⟨ht0, hf0, es, clk, hmem, hks, hvs, hst⟩ := hr
            split at he
            · rename_i fr hfe
              simp only [Option.some.injEq, Prod.mk.injEq] at he
              obtain ⟨rfl, rfl, rfl⟩ := he
              have hlt : h0.b < w.heap.size := hR1.blk l h0 hbb
              have fin : ∀ (mo : Obj) (es' : Array MapEntry) (clk' : Nat), mo = .map es' clk' → (Instr.mapUpdate t (ρ m) (ρ k) (ρ x)).run C.P w = .ok () { w with heap := w.heap.setIfInBounds h0.b mo } →
                  VRels fid G1 w ((setEnt kd (ev ak) u' ents).map (·.1)) (es'.toList.map (·.key)) → VRels fid G1 w ((setEnt kd (ev ak) u' ents).map (·.2)) (es'.toList.map (·.val)) → Stamps es' clk' →
                  Did C fid G1 H1 w low1 ((execOp ρ o).run C.P w) .undef (H1.set l (.map (setEnt kd (ev ak) u' ents))) (min low1 l) := by
                rintro mo es' clk' rfl hrr hks' hvs' hst'
                have hother : ∀ b, b ≠ h0.b → ({ w with heap := w.heap.setIfInBounds h0.b (.map es' clk') } : World).heap[b]? = w.heap[b]? := fun b hne => by
                  show (w.heap.setIfInBounds h0.b _)[b]? = _
                  rw [Array.getElem?_setIfInBounds_ne (Ne.symm hne)]
                have hself : ({ w with heap := w.heap.setIfInBounds h0.b (.map es' clk') } : World).heap[h0.b]? = some (.map es' clk') := by
                  show (w.heap.setIfInBounds h0.b _)[h0.b]? = _
                  simp [hlt]
                have hsz : ({ w with heap := w.heap.setIfInBounds h0.b (.map es' clk') } : World).heap.size = w.heap.size := by simp
                have hx' : Ext G1 w ⟨upd G1.β l h0, G1.I⟩ { w with heap := w.heap.setIfInBounds h0.b (.map es' clk') } l H1.length :=
                  Ext.write hR1 hbb hf0 rfl (Nat.le_refl _) id rfl hsz hother rfl rfl
                refine ⟨undef, _, _, .inr ⟨by rw [hrun, hrr]; rfl, rfl⟩, RelH.write hR1 hbb hf0 rfl hf0 (Nat.le_refl _) id rfl hsz hother (.map (setEnt kd (ev ak) u' ents)) ⟨ht0, hf0, es', clk', hself, hks'.ext hR1 hx', hvs'.ext hR1 hx', hst'⟩,
                  fun m hm => hx'.le (Nat.le_trans hm (Nat.min_le_right _ _)) (Nat.le_refl _), .undef _, Nat.min_le_left _ _, by simp⟩
              cases fr with
              | none =>
                have hf := findNow_of hkd hdk hk1 0 hks hvs hfe
                refine fin _ (es.push { key := ρ k, val := ρ x, born := clk }) (clk + 1) rfl ?_ ?_ ?_ (hst.push _ _)
                · unfold Instr.mapUpdate
                  simp only [hxx, Sem.run_bind, run_underlying hd, Result.andThen_ok, getObj_map hmem, checkKey_run hkd, findKey_run (C := C) hdk hf, setObj_map _ hmem]
                · rw [setEnt_none hfe]
                  simp only [List.map_append, List.map_cons, List.map_nil, Array.toList_push]
                  exact hks.append (.cons _ _ _ _ hk1 .nil)
                · rw [setEnt_none hfe]
                  simp only [List.map_append, List.map_cons, List.map_nil, Array.toList_push]
                  exact hvs.append (.cons _ _ _ _ k1 .nil)
              | some r =>
                obtain ⟨j, y, hf, -, en, hen, hbits⟩ := findNow_of hkd hdk hk1 0 hks hvs hfe
                obtain ⟨s1, s2⟩ := setEnt_some hkd hdk hk1 k1 0 hks hvs hfe hf
                rw [Nat.zero_add] at hf
                refine fin _ (es.modify j fun e => { e with key := ρ k, val := ρ x }) clk rfl ?_ (by simpa using s1) (by simpa using s2) (hst.modify _ _ _)
                have hen' : es[j]? = some en := by rw [← Array.getElem?_toList]; exact hen
                unfold Instr.mapUpdate
                simp only [hxx, Sem.run_bind, run_underlying hd, Result.andThen_ok, getObj_map hmem, checkKey_run hkd, findKey_run (C := C) hdk hf, hen', Option.map_some, Option.getD_some, Instr.keyThatStays, hbits, if_true, Sem.run_pure, setObj_map _ hmem]
            · cases he
          · cases he
        · cases he
    · cases he
  · cases hc

end Go.Abs
/- All operations but the calls of functions. -/
namespace Go.Abs
open Go
variable {C : Ctx} {fid : Nat → Nat} {w w' : World} {G G' : Gh} {H : Heap}
section
variable {vars : List Nat} {ev : Opd → V} {ρ : Operand → Value} {low low' : Nat} {v : V} {H' : Heap} {pos : String} {aop : AOp} {o : Oper}

theorem arr2 {α : Type} {a : Array α} {x y : α} (h : a.toList = [x, y]) : a = #[x, y] := by cases a; simp_all
theorem arr1 {α : Type} {a : Array α} {x : α} (h : a.toList = [x]) : a = #[x] := by cases a; simp_all

theorem s_builtin (hR : RelH C fid G H w) (hρ : OpdRel C fid vars G w ev ρ) {b : Builtin} {args : Array Operand} {ts : Array TypeId} (ho : o.op = .call { callee := .builtin b, args, argTypes := ts })
    (hc : C.builtin vars b args ts = some aop) (he : step ev H low aop = some (v, H', low')) : Did C fid G H w low ((execOp ρ o).run C.P w) v H' low' := by
  unfold Ctx.builtin at hc
  split at hc
  · rename_i x t ha ht
    split at hc
    · rename_i hu
      obtain ⟨ax, hx, rfl⟩ := Option.map_eq_some_iff.1 hc
      exact s_len hR hρ ho (arr1 ha) (arr1 ht) hx (by simpa using hu) he
    · rename_i e hu
      obtain ⟨ax, hx, rfl⟩ := Option.map_eq_some_iff.1 hc
      exact s_len hR hρ ho (arr1 ha) (arr1 ht) hx (by simpa using ⟨e, hu⟩) he
    · rename_i k e hu
      obtain ⟨ax, hx, rfl⟩ := Option.map_eq_some_iff.1 hc
      exact s_len hR hρ ho (arr1 ha) (arr1 ht) hx (by simpa using ⟨k, e, hu⟩) he
    · cases hc
  · rename_i a b t u ha ht
    split at hc
    · rename_i e e' h1 h2
      split at hc
      · rename_i i aa ab hi hx hy
        split at hc
        · cases hc
        · rename_i hn
          simp only [Option.some.injEq] at hc; subst hc
          have hn2 : i.size ≠ 0 ∧ i.zero.map (fun z => z.cells.size) = some i.size := by
            simp only [Bool.or_eq_true, decide_eq_true_eq, bne_iff_ne, ne_eq, not_or, Decidable.not_not] at hn
            exact hn
          obtain ⟨zv, hz, hzs⟩ := Option.map_eq_some_iff.1 hn2.2
          exact s_append hR hρ ho (arr2 ha) (arr2 ht) hx hy h1 h2 hi hz hzs (Nat.pos_of_ne_zero hn2.1) he
      · cases hc
    · cases hc
  · rename_i a b ha
    split at hc
    · rename_i aa ab hx hy
      simp only [Option.some.injEq] at hc; subst hc
      exact s_minmax hR hρ ho (arr2 ha) (mx := true) rfl hx hy he
    · cases hc
  · rename_i a b t u ha ht
    split at hc
    · rename_i e e' h1 h2
      split at hc
      · rename_i n aa ab hi hx hy
        split at hc
        · cases hc
        · simp only [Option.some.injEq] at hc; subst hc
          exact s_copy (e' := e') hR hρ ho (arr2 ha) (arr2 ht) hx hy h1 hi he
      · cases hc
    · cases hc
  · rename_i a b ha
    split at hc
    · rename_i aa ab hx hy
      simp only [Option.some.injEq] at hc; subst hc
      exact s_minmax hR hρ ho (arr2 ha) (mx := false) rfl hx hy he
    · cases hc
  · cases hc

theorem step_sound (hC : CtxOk C fid) (hR : RelH C fid G H w) (hρ : OpdRel C fid vars G w ev ρ) (hlow : low ≤ H.length)
    (he : step ev H low (C.op vars pos o.op) = some (v, H', low')) : Did C fid G H w low ((execOp ρ o).run C.P w) v H' low' := by
  unfold Ctx.op at he
  cases hc : C.op0 vars pos o.op with
  | none => rw [hc] at he; simp [step] at he
  | some aop =>
    rw [hc] at he
    simp only [Option.getD_some] at he
    cases hop : o.op with
    | move x => exact s_move hR hρ (.inl hop) hc he
    | assign x => exact s_move hR hρ (.inr hop) hc he
    | pick c a b => exact s_pick hR hρ hop hc he
    | alloc t => exact s_alloc hR hop hc he
    | box t x => exact s_box hR hρ hop hc he
    | build t parts => exact s_build hR hρ hop hc he
    | buildSlice t l parts => exact s_lit hR hρ hop hc he
    | load t a => exact s_load hR hρ hop hc he
    | store t a x => exact s_store hR hρ hop hc hlow he
    | nilCheck x => exact s_nilCheck hR hρ hop hc he
    | binOp a b c d e => exact s_bin hR hρ hop hc he
    | unOp a b c => exact s_un hR hρ hop hc he
    | convert a b c => exact s_convert hR hρ hop hc he
    | makeInterface a b => exact s_mkIface hR hρ hop hc he
    | makeFunc a b c => exact s_mkFn hC hR hρ hop hc he
    | makeMap a b => exact s_mkMap hR hop hc he
    | makeSlice a b c => exact s_mkSlice hR hρ hop hc he
    | slice a b c d e => exact s_slice hR hρ hop hc he
    | fieldAddr a b c => exact s_fieldAddr hR hρ hop hc he
    | field a b c => exact s_field hR hρ hop hc he
    | indexAddr a b c => exact s_indexAddr hR hρ hop hc he
    | index a b c => exact s_indexS hR hρ hop hc he
    | lookup a b c d => exact s_lookup hR hρ hop hc he
    | mapUpdate a b c d => exact s_mapUpd hR hρ (.inl hop) hc he
    | insert a b c d => exact s_mapUpd hR hρ (.inr hop) hc he
    | extract a b => exact s_extract hR hρ hop hc he
    | call c =>
      rw [hop] at hc
      obtain ⟨callee, args, ats⟩ := c
      cases callee with
      | builtin b => exact s_builtin hR hρ hop hc he
      | value f =>
        simp only [Ctx.op0] at hc
        split at hc
        · simp only [Option.some.injEq] at hc; subst hc; simp [step] at he
        · cases hc
      | _ => simp [Ctx.op0] at hc
    | _ => rw [hop] at hc; simp [Ctx.op0] at hc
end
end Go.Abs
/- What the executor leaves of the heap as it was. Nothing here speaks of the real memory. -/
namespace Go.Abs
open Go

/-- Objects older than 'low2' are as they were. -/
structure Fr (H : Heap) (low : Nat) (H' : Heap) (low' : Nat) : Prop where
  len : H.length ≤ H'.length
  low : low' ≤ low
  same : ∀ l, l < low' → H'[l]? = H[l]?

variable {H H' H1 H2 : Heap} {low low' low1 low2 : Nat} {ev : Opd → V} {v v' : V}

theorem Fr.refl (H : Heap) (low : Nat) : Fr H low H low := ⟨Nat.le_refl _, Nat.le_refl _, fun _ _ => rfl⟩
theorem Fr.trans (h : Fr H low H1 low1) (k : Fr H1 low1 H2 low2) : Fr H low H2 low2 :=
  ⟨Nat.le_trans h.len k.len, Nat.le_trans k.low h.low, fun l hl => (k.same l hl).trans (h.same l (Nat.lt_of_lt_of_le hl k.low))⟩
theorem Fr.push (hl : low ≤ H.length) (o : AObj) : Fr H low (H ++ [o]) low :=
  ⟨by simp, Nat.le_refl _, fun l h => by rw [List.getElem?_append_left (by omega)]⟩
theorem Fr.set (l : Nat) (o : AObj) : Fr H low (H.set l o) (min low l) :=
  ⟨by simp, Nat.min_le_left _ _, fun x h => by rw [List.getElem?_set_ne (by omega)]⟩
theorem Fr.lift (h : Fr H low1 H' low2) (low : Nat) : Fr H low H' (min low low2) :=
  ⟨h.len, Nat.min_le_left _ _, fun l hl => h.same l (by omega)⟩
theorem Fr.eq (h : Fr H low H' low') (hl : H.length ≤ low') (he : H'.length = H.length) : H' = H := by
  apply List.ext_getElem?
  intro l
  rcases Nat.lt_or_ge l low' with q | q
  · exact h.same l q
  · rw [List.getElem?_eq_none (by omega), List.getElem?_eq_none (by omega)]
theorem movedH_false (h : Fr H low H' low') (hm : movedH H H' low' = false) : H' = H := by
  simp only [movedH, Bool.or_eq_false_iff, decide_eq_false_iff_not, bne_eq_false_iff_eq] at hm
  exact h.eq (by omega) hm.2

structure FrOk (f : Heap → Nat → V → Option (V × Heap × Nat)) : Prop where
  ok : ∀ {H H' : Heap} {low low' : Nat} {v v' : V}, f H low v = some (v', H', low') → Fr H low H' low' ∧ H'.length = H.length

theorem mapFz_fr {f : Heap → Nat → V → Option (V × Heap × Nat)} (hf : FrOk f) : ∀ {vs vs' : List V} {H H' : Heap} {low low' : Nat}, mapFz f H low vs = some (vs', H', low') → Fr H low H' low' ∧ H'.length = H.length
  | [], _, _, _, _, _, he => by
    simp only [mapFz, Option.some.injEq, Prod.mk.injEq] at he
    obtain ⟨-, rfl, rfl⟩ := he
    exact ⟨.refl _ _, rfl⟩
  | v :: r, _, _, _, _, _, he => by
    simp only [mapFz] at he
    split at he
    · rename_i h1
      split at he
      · rename_i h2
        simp only [Option.some.injEq, Prod.mk.injEq] at he
        obtain ⟨-, rfl, rfl⟩ := he
        have a := hf.ok h1
        have b := mapFz_fr hf h2
        exact ⟨a.1.trans b.1, b.2.trans a.2⟩
      · cases he
    · cases he

theorem freezeD_fr : ∀ (n : Nat), FrOk (freezeD n)
  | 0 => by
    refine ⟨fun {H H' low low' v v'} he => ?_⟩
    simp only [freezeD] at he
    split at he
    · simp only [Option.some.injEq, Prod.mk.injEq] at he
      obtain ⟨-, rfl, rfl⟩ := he
      exact ⟨.refl _ _, rfl⟩
    · cases he
  | n + 1 => by
    refine ⟨fun {H H' low low' v v'} he => ?_⟩
    have ih := fun {vs vs' H H' low low'} => mapFz_fr (freezeD_fr n) (vs := vs) (vs' := vs') (H := H) (H' := H') (low := low) (low' := low')
    simp only [freezeD] at he
    split at he
    · simp only [Option.some.injEq, Prod.mk.injEq] at he
      obtain ⟨-, rfl, rfl⟩ := he
      exact ⟨.refl _ _, rfl⟩
    · split at he
      · split at he
        · rename_i h
          simp only [Option.some.injEq, Prod.mk.injEq] at he
          obtain ⟨-, rfl, rfl⟩ := he
          exact ih h
        · cases he
      · split at he
        · rename_i h
          simp only [Option.some.injEq, Prod.mk.injEq] at he
          obtain ⟨-, rfl, rfl⟩ := he
          exact ih h
        · cases he
      · split at he
        · split at he
          · split at he
            · simp only [Option.some.injEq, Prod.mk.injEq] at he
              obtain ⟨-, rfl, rfl⟩ := he
              split
              · exact ⟨.refl _ _, rfl⟩
              · exact ⟨.set _ _, by simp⟩
            · split at he
              · rename_i h
                split at he
                · split at he
                  · simp only [Option.some.injEq, Prod.mk.injEq] at he
                    obtain ⟨-, rfl, rfl⟩ := he
                    have := ih h
                    exact ⟨this.1.trans (.set _ _), by simp [this.2]⟩
                  · cases he
                · cases he
              · cases he
          · cases he
        · cases he
      · simp only [Option.some.injEq, Prod.mk.injEq] at he
        obtain ⟨-, rfl, rfl⟩ := he
        exact ⟨.refl _ _, rfl⟩

theorem freezeV_fr (he : freezeV H low v = some (v', H', low')) : Fr H low H' low' ∧ H'.length = H.length := (freezeD_fr 16).ok he

theorem freezeVs_fr : ∀ {vs vs' : List V} {H H' : Heap} {low low' : Nat}, freezeVs H low vs = some (vs', H', low') → Fr H low H' low' ∧ H'.length = H.length
  | [], _, _, _, _, _, he => by
    simp only [freezeVs, Option.some.injEq, Prod.mk.injEq] at he
    obtain ⟨-, rfl, rfl⟩ := he
    exact ⟨.refl _ _, rfl⟩
  | v :: r, _, _, _, _, _, he => by
    simp only [freezeVs] at he
    split at he
    · rename_i h1
      split at he
      · rename_i h2
        simp only [Option.some.injEq, Prod.mk.injEq] at he
        obtain ⟨-, rfl, rfl⟩ := he
        have a := freezeV_fr h1
        have b := freezeVs_fr h2
        exact ⟨a.1.trans b.1, b.2.trans a.2⟩
      · cases he
    · cases he

theorem storeA_fr {n : Nat} {a x : V} {l : Nat} (he : storeA H n a x = some (H', l)) : ∃ o, H' = H.set l o := by
  unfold storeA at he
  repeat' split at he
  all_goals first
    | (simp only [Option.some.injEq, Prod.mk.injEq] at he; obtain ⟨rfl, rfl⟩ := he; exact ⟨_, rfl⟩)
    | cases he

set_option maxHeartbeats 1000000 in
theorem step_fr {op : AOp} (hl : low ≤ H.length) (he : step ev H low op = some (v, H', low')) : Fr H low H' low' := by
  cases op with
  | alloc z =>
    simp only [step, Option.some.injEq, Prod.mk.injEq] at he
    obtain ⟨-, rfl, rfl⟩ := he
    exact .push hl _
  | box x =>
    simp only [step] at he
    split at he
    · simp only [Option.some.injEq, Prod.mk.injEq] at he
      obtain ⟨-, rfl, rfl⟩ := he
      exact .push hl _
    · cases he
  | build z parts =>
    simp only [step] at he
    obtain ⟨cs, -, he⟩ := Option.map_eq_some_iff.1 he
    simp only [Prod.mk.injEq] at he
    obtain ⟨-, rfl, rfl⟩ := he
    exact .refl _ _
  | lit es z len parts im =>
    simp only [step] at he
    split at he
    · rename_i h
      have hf := freezeVs_fr h
      have hl' : low' ≤ low' := Nat.le_refl _
      split at he
      · split at he
        · split at he
          · simp only [Option.some.injEq, Prod.mk.injEq] at he
            obtain ⟨-, rfl, rfl⟩ := he
            exact hf.1
          · cases he
        · split at he
          · simp only [Option.some.injEq, Prod.mk.injEq] at he
            obtain ⟨-, rfl, rfl⟩ := he
            exact hf.1
          · simp only [Option.some.injEq, Prod.mk.injEq] at he
            obtain ⟨-, rfl, rfl⟩ := he
            exact hf.1.trans (.push (by have := hf.1.low; have := hf.1.len; omega) _)
      · cases he
    · cases he
  | store n a x =>
    simp only [step] at he
    obtain ⟨⟨H1, l⟩, h, he⟩ := Option.map_eq_some_iff.1 he
    simp only [Prod.mk.injEq] at he
    obtain ⟨-, rfl, rfl⟩ := he
    obtain ⟨o, rfl⟩ := storeA_fr h
    exact .set _ _
  | mkIface t x =>
    simp only [step] at he
    split at he
    · rename_i h
      simp only [Option.some.injEq, Prod.mk.injEq] at he
      obtain ⟨-, rfl, rfl⟩ := he
      exact (freezeV_fr h).1
    · cases he
  | mkMap =>
    simp only [step, Option.some.injEq, Prod.mk.injEq] at he
    obtain ⟨-, rfl, rfl⟩ := he
    exact .push hl _
  | mkSlice es z bytes l c =>
    simp only [step] at he
    repeat' split at he
    all_goals first
      | (simp only [Option.some.injEq, Prod.mk.injEq] at he; obtain ⟨-, rfl, rfl⟩ := he; first | exact .refl _ _ | exact .push hl _)
      | cases he
  | mapUpd kind m k x =>
    simp only [step] at he
    split at he
    · rename_i h
      have hf := (freezeV_fr h).1
      repeat' split at he
      all_goals first
        | (simp only [Option.some.injEq, Prod.mk.injEq] at he; obtain ⟨-, rfl, rfl⟩ := he; exact hf.trans (.set _ _))
        | cases he
    · cases he
  | append es bytes a b =>
    simp only [step] at he
    split at he
    · split at he
      · rename_i h
        have hf := (freezeVs_fr h).1
        have hle : ∀ x, x ≤ low → x ≤ H.length := fun x hx => Nat.le_trans hx hl
        repeat' split at he
        all_goals first
          | (simp only [Option.some.injEq, Prod.mk.injEq] at he; obtain ⟨-, rfl, rfl⟩ := he
             first
               | exact hf
               | exact hf.trans (.push (by have := hf.low; have := hf.len; omega) _)
               | exact hf.trans (.set _ _))
          | cases he
      · cases he
    · cases he
  | copy es a b =>
    simp only [step] at he
    repeat' split at he
    all_goals first
      | (simp only [Option.some.injEq, Prod.mk.injEq] at he; obtain ⟨-, rfl, rfl⟩ := he; first | exact .refl _ _ | exact .set _ _)
      | cases he
  | call raw f args => simp [step] at he
  | fail => simp [step] at he
  | _ =>
    simp only [step] at he
    repeat' split at he
    all_goals first
      | (cases he; done)
      | (cases he; exact .refl _ _)
      | (simp only [Option.some.injEq, Prod.mk.injEq] at he; obtain ⟨-, rfl, rfl⟩ := he; exact .refl _ _)
      | (obtain ⟨_, -, he⟩ := Option.map_eq_some_iff.1 he; simp only [Prod.mk.injEq] at he; obtain ⟨-, rfl, rfl⟩ := he; exact .refl _ _)

/-- What does not look at the heap has the same outcome at each. -/
theorem step_still {op : AOp} (ht : touches op = false) (he : step ev H low op = some (v, H', low')) : H' = H ∧ low' = low ∧ ∀ H2 low2, step ev H2 low2 op = some (v, H2, low2) := by
  cases op <;> first
    | (simp [touches] at ht; done)
    | skip
  all_goals
    simp only [step] at he ⊢
    repeat' split at he
    all_goals first
      | (cases he; done)
      | (simp only [Option.some.injEq, Prod.mk.injEq] at he; obtain ⟨rfl, rfl, rfl⟩ := he; simp_all; done)
      | (obtain ⟨x, hx, he⟩ := Option.map_eq_some_iff.1 he; simp only [Prod.mk.injEq] at he; obtain ⟨rfl, rfl, rfl⟩ := he; simp_all; done)

theorem bnd_congr {ev ev' : Opd → V} {d : Nat} {x : Option Opd} (h : ∀ y ∈ x.toList, ev y = ev' y) : bnd ev d x = bnd ev' d x := by
  cases x with
  | none => rfl
  | some y => simp [bnd, h y (by simp)]

/-- An operation looks at its operands alone. -/
theorem step_congr {ev ev' : Opd → V} {op : AOp} (h : ∀ x ∈ op.operands, ev x = ev' x) : step ev H low op = step ev' H low op := by
  cases op with
  | build z parts =>
    have : (parts.map fun p => (p.1, p.2.1, ev p.2.2)) = parts.map fun p => (p.1, p.2.1, ev' p.2.2) := List.map_congr_left fun p hp => by rw [h _ (by simp only [AOp.operands, List.mem_map]; exact ⟨p, hp, rfl⟩)]
    simp only [step, this]
  | lit es z len parts im =>
    have : (parts.map fun p => ev p.2) = parts.map fun p => ev' p.2 := List.map_congr_left fun p hp => h _ (by simp only [AOp.operands, List.mem_map]; exact ⟨p, hp, rfl⟩)
    simp only [step, this]
  | mkFn i a b =>
    have h1 : a.map ev = a.map ev' := List.map_congr_left fun p hp => h _ (by simp [AOp.operands, hp])
    have h2 : b.map ev = b.map ev' := List.map_congr_left fun p hp => h _ (by simp [AOp.operands, hp])
    simp only [step, h1, h2]
  | sliceS x lo hi =>
    have h0 := h x (by simp [AOp.operands])
    have h1 : ∀ d, bnd ev d lo = bnd ev' d lo := fun d => bnd_congr fun y hy => h y (by simp only [AOp.operands, List.mem_cons, List.mem_append]; exact .inr (.inl hy))
    have h2 : ∀ d, bnd ev d hi = bnd ev' d hi := fun d => bnd_congr fun y hy => h y (by simp only [AOp.operands, List.mem_cons, List.mem_append]; exact .inr (.inr hy))
    simp only [step, h0, h1, h2]
  | sliceL es x lo hi mx =>
    have h0 := h x (by simp [AOp.operands])
    have h1 : ∀ d, bnd ev d lo = bnd ev' d lo := fun d => bnd_congr fun y hy => h y (by simp only [AOp.operands, List.mem_cons, List.mem_append]; exact .inr (.inl (.inl hy)))
    have h2 : ∀ d, bnd ev d hi = bnd ev' d hi := fun d => bnd_congr fun y hy => h y (by simp only [AOp.operands, List.mem_cons, List.mem_append]; exact .inr (.inl (.inr hy)))
    have h3 : ∀ d, bnd ev d mx = bnd ev' d mx := fun d => bnd_congr fun y hy => h y (by simp only [AOp.operands, List.mem_cons, List.mem_append]; exact .inr (.inr hy))
    cases mx with
    | none => simp only [step, h0, h1, h2, h3]
    | some m =>
      have h4 := h m (by simp [AOp.operands])
      simp only [step, h0, h1, h2, h3, h4]
  | call raw f args => rfl
  | fail => rfl
  | alloc z => rfl
  | mkMap => rfl
  | _ => simp only [step]; simp only [AOp.operands, List.mem_cons, List.not_mem_nil, or_false, forall_eq_or_imp, forall_eq] at h; simp only [h]

theorem stepC_eq {call : CallT} {op : AOp} (h : ∀ raw f args, op ≠ .call raw f args) : stepC call ev H low op = step ev H low op := by
  cases op <;> first | rfl | exact absurd rfl (h _ _ _)

theorem stepC_congr {call : CallT} {ev ev' : Opd → V} {op : AOp} (h : ∀ x ∈ op.operands, ev x = ev' x) : stepC call ev H low op = stepC call ev' H low op := by
  cases op with
  | call raw f args =>
    have h0 := h f (by simp [AOp.operands])
    have h1 : args.map ev = args.map ev' := List.map_congr_left fun p hp => h _ (by simp [AOp.operands, hp])
    cases raw <;> simp only [stepC, h0, h1]
  | _ => rw [stepC_eq (by simp), stepC_eq (by simp)]; exact step_congr h

def CallFr (call : CallT) : Prop := ∀ (f : V) (args : List V) (H : Heap) (v : V) (H' : Heap) (low' : Nat), call f args H = some (v, H', low') → Fr H H.length H' low'

theorem stepC_fr {call : CallT} {op : AOp} (hc : CallFr call) (hl : low ≤ H.length) (he : stepC call ev H low op = some (v, H', low')) : Fr H low H' low' := by
  cases op with
  | call raw f args =>
    cases raw
    · simp only [stepC] at he
      split at he
      · rename_i vs H1 low1 h1
        have hf := freezeVs_fr h1
        split at he
        · rename_i u H2 l h2
          have hk := hc _ _ _ _ _ _ h2
          split at he
          · cases he; exact .refl _ _
          · cases he; exact hf.1.trans (hk.lift _)
        · cases he
      · cases he
    · simp only [stepC] at he
      split at he
      · rename_i u H2 l h2
        cases he
        exact (hc _ _ _ _ _ _ h2).lift _
      · cases he
  | _ => rw [stepC_eq (by simp)] at he; exact step_fr hl he


theorem put_H (st : St) (d : Option (Nat × Bool)) (v : V) : (st.put d v).H = st.H ∧ (st.put d v).low = st.low ∧ (st.put d v).ro = st.ro := by
  rcases d with _ | ⟨t, b⟩
  · exact ⟨rfl, rfl, rfl⟩
  · cases b <;> exact ⟨rfl, rfl, rfl⟩

/-- From one state of the executor to a later one. -/
def FrS (st st' : St) : Prop := Fr st.H st.low st'.H st'.low ∧ st'.ro = st.ro

theorem FrS.refl (st : St) : FrS st st := ⟨.refl _ _, rfl⟩
theorem FrS.trans {a b c : St} (h : FrS a b) (k : FrS b c) : FrS a c := ⟨h.1.trans k.1, k.2.trans h.2⟩
theorem FrS.bound {a b : St} (h : FrS a b) (hl : a.low ≤ a.H.length) : b.low ≤ b.H.length := by
  have := h.1.low; have := h.1.len; omega

theorem execOps_fr {call : CallT} (hc : CallFr call) : ∀ (ops : List AOper) (st st' : St) (wr wr' : List Bool), st.low ≤ st.H.length → execOps call ops st wr = some (st', wr') → FrS st st'
  | [], st, st', wr, wr', _, he => by
    simp only [execOps, Option.some.injEq, Prod.mk.injEq] at he
    obtain ⟨rfl, -⟩ := he; exact .refl _
  | o :: r, st, st', wr, wr', hl, he => by
    simp only [execOps] at he
    split at he
    · split at he
      · rename_i v H' low' h
        have hf := stepC_fr hc (Nat.le_refl _) h
        have hp := put_H { st with H := H', low := min st.low low' } o.dst v
        have h1 : FrS st ({ st with H := H', low := min st.low low' }.put o.dst v) := ⟨by rw [hp.1, hp.2.1]; exact hf.lift _, hp.2.2⟩
        exact h1.trans (execOps_fr hc r _ _ _ _ (h1.bound hl) he)
      · cases he
    · have hp := put_H st o.dst (.tup [])
      have h1 : FrS st (st.put o.dst (.tup [])) := ⟨by rw [hp.1, hp.2.1]; exact .refl _ _, hp.2.2⟩
      exact h1.trans (execOps_fr hc r _ _ _ _ (h1.bound hl) he)
    · cases he

theorem iter_fr {f : St → Option (X × St)} (hf : ∀ st x st', st.low ≤ st.H.length → f st = some (x, st') → FrS st st') : ∀ (n : Nat) (st : St) (x : X) (st' : St), st.low ≤ st.H.length → iter f n st = some (x, st') → FrS st st'
  | 0, _, _, _, _, he => by cases he
  | n + 1, st, x, st', hl, he => by
    simp only [iter] at he
    split at he
    · rename_i st1 h1
      have a := hf _ _ _ hl h1
      exact a.trans (iter_fr hf n _ _ _ (a.bound hl) he)
    · exact hf _ _ _ hl he

theorem exec_fr {call : CallT} (hc : CallFr call) (n : Nat) : ∀ (c : ACode) (st : St) (x : X) (st' : St), st.low ≤ st.H.length → exec call n c st = some (x, st') → FrS st st'
  | .skip, st, x, st', hl, he => by simp only [exec, Option.some.injEq, Prod.mk.injEq] at he; obtain ⟨-, rfl⟩ := he; exact .refl _
  | .region ops bef, st, x, st', hl, he => by
    simp only [exec, St.closed_eq] at he
    split at he
    · rename_i st1 wr h1
      have a : FrS { st with tE := [] } st1 := execOps_fr hc _ _ _ _ _ hl h1
      have a' : FrS st st1 := a
      repeat' split at he
      all_goals first
        | (cases he; exact a')
        | cases he
    · cases he
  | .seq a b, st, x, st', hl, he => by
    simp only [exec, St.closed_eq] at he
    split at he
    · rename_i st1 h1
      have k := exec_fr hc n a _ _ _ hl h1
      exact k.trans (exec_fr hc n b _ _ _ (k.bound hl) he)
    · exact exec_fr hc n a _ _ _ hl he
  | .cond c t e, st, x, st', hl, he => by
    simp only [exec, St.closed_eq] at he
    split at he
    · exact exec_fr hc n t _ _ _ hl he
    · exact exec_fr hc n e _ _ _ hl he
    · cases he
  | .block id c, st, x, st', hl, he => by
    simp only [exec, St.closed_eq] at he
    split at he
    · rename_i st1 h1
      have k := exec_fr hc n c _ _ _ hl h1
      split at he <;> (cases he; exact k)
    · exact exec_fr hc n c _ _ _ hl he
  | .loop c, st, x, st', hl, he => by
    simp only [exec, St.closed_eq] at he
    exact iter_fr (fun st x st' h1 h2 => exec_fr hc n c st x st' h1 h2) n _ _ _ hl he
  | .rangeFunc f ps a b, st, x, st', hl, he => by
    simp only [exec, St.closed_eq] at he
    split at he
    · cases he
    · split at he
      · rename_i u H1 low1 h1
        have k := hc _ _ _ _ _ _ h1
        split at he
        · split at he
          · cases he
          · cases he
            refine ⟨⟨?_, Nat.min_le_left _ _, fun l h => ?_⟩, rfl⟩
            · have := k.len; simp at this ⊢; omega
            · simp only at h ⊢
              rw [List.getElem?_set_ne (by omega), k.same l (by omega), List.getElem?_append_left (by omega)]
        · cases he
      · cases he
  | .exit id, st, x, st', hl, he => by simp only [exec, Option.some.injEq, Prod.mk.injEq] at he; obtain ⟨-, rfl⟩ := he; exact .refl _
  | .ret, st, x, st', hl, he => by simp only [exec, Option.some.injEq, Prod.mk.injEq] at he; obtain ⟨-, rfl⟩ := he; exact .refl _
  | .fail, st, x, st', hl, he => by simp [exec] at he

theorem finish_fr {fresh : Bool} {H0 : Heap} (h : Fr H0 H0.length H low) (he : finish fresh H0 v H low = some (v', H', low')) : Fr H0 H0.length H' low' := by
  unfold finish at he
  split at he
  · split at he
    · split at he
      · cases he; exact .push (Nat.le_refl _) _
      · cases he
    · cases he
  · split at he
    · rename_i h1
      split at he
      · cases he; exact .refl _ _
      · cases he; exact h.trans (freezeV_fr h1).1
    · cases he

theorem callBody_fr {ex : ACode → St → Option (X × St)} (hx : ∀ c st x st', st.low ≤ st.H.length → ex c st = some (x, st') → FrS st st') {f : AFunc} {args : List V}
    (he : callBody ex f args H = some (v, H', low')) : Fr H H.length H' low' := by
  unfold callBody at he
  split at he
  · split at he
    · rename_i st h1
      have k := (hx _ _ _ _ (Nat.le_refl _) h1).1
      split at he
      · exact finish_fr k he
      · exact finish_fr k he
      · cases he
    · rename_i st h1
      have k := (hx _ _ _ _ (Nat.le_refl _) h1).1
      split at he
      · exact finish_fr k he
      · exact finish_fr k he
      · cases he
    · cases he
  · cases he

theorem yieldBody_fr {ex : ACode → St → Option (X × St)} (hx : ∀ c st x st', st.low ≤ st.H.length → ex c st = some (x, st') → FrS st st') {l : Nat} {args : List V}
    (he : yieldBody ex l args H = some (v, H', low')) : Fr H H.length H' low' := by
  unfold yieldBody at he
  split at he
  · split at he
    · split at he
      · rename_i st h1
        have k := (hx _ _ _ _ (Nat.le_refl _) h1).1
        split at he
        · split at he
          · rename_i x st2 h2
            have k2 := (hx _ _ _ _ (by have q := k.low; have q' := k.len; simp only [List.length_set] at q q' ⊢; omega) h2).1
            split at he
            · cases he
              exact (k.trans (.set _ _)).trans (k2.trans (.set _ _))
            · cases he
          · cases he
        · cases he
      · cases he
    · cases he
  · cases he

theorem callN_fr (tab : Nat → Option Fun) : ∀ (n : Nat), CallFr (callN tab n)
  | 0 => fun f args H v H' low' he => by simp [callN] at he
  | n + 1 => fun f args H v H' low' he => by
    have hx := fun c st x st' (h1 : st.low ≤ st.H.length) h2 => exec_fr (callN_fr tab n) n c st x st' h1 h2
    simp only [callN, callV] at he
    split at he
    · split at he
      · exact callBody_fr hx he
      · split at he
        · obtain ⟨u, -, he⟩ := Option.map_eq_some_iff.1 he
          cases he; exact .refl _ _
        · cases he
      · cases he
    · exact yieldBody_fr hx he
    · cases he

end Go.Abs
/- One operation of a region, calls among them: what the machine does where the executor goes on. -/
namespace Go.Abs
open Go
variable {C : Ctx} {fid : Nat → Nat} {w w' : World} {G G' : Gh} {H H' : Heap}

/-- No fence: every function, any depth; 'ro': the round whose frame it is. -/
def FW (ro : Option Nat) : Fence := { fn := fun _ => True, depth := none, alive := false, round := ro }

theorem FW_fn (ro : Option Nat) (f : FuncId) : (FW ro).fn f := trivial

/-- What an operation, or a call, has come to. -/
def Post (C : Ctx) (fid : Nat → Nat) (G : Gh) (H : Heap) (w : World) (v : V) (H' : Heap) (low' : Nat) (x : Value) (w' : World) : Prop :=
  ∃ G', RelH C fid G' H' w' ∧ (∀ m, m ≤ low' → Ext G w G' w' m H.length) ∧ VRel fid G' w' v x

/-- The machine goes on from what an operation asked for, and comes back with a value. -/
def NextRuns (P : Program) (R : Value → World → Prop) : Result Next → Prop
  | .ok (.value x) w' => R x w'
  | .ok .skip w' => R undef w'
  | .ok (.enter f args) w' => Calls P f args w' (fun e w'' => ∃ x, e = .returned x ∧ R x w'')
  | .ok (.row row args) w' => Rows P row args w' R
  | .ok (.round l f tmps as bd) w' => RoundIn Fence.wide 0 P l f tmps as bd w' (fun e w'' => ∃ x, e = .returned x ∧ R x w'')
  | _ => False

theorem NextRuns.mono {P : Program} {R R' : Value → World → Prop} (h : ∀ x w, R x w → R' x w) : ∀ {r : Result Next}, NextRuns P R r → NextRuns P R' r
  | .ok (.value x) w', k => h _ _ k
  | .ok .skip w', k => h _ _ k
  | .ok (.enter f args) w', k => Calls.mono k fun e w'' => fun ⟨x, e1, e2⟩ => ⟨x, e1, h _ _ e2⟩
  | .ok (.row row args) w', k => Rows.mono k h
  | .ok (.round l f tmps as bd) w', k => RoundIn.mono k fun e w'' => fun ⟨x, e1, e2⟩ => ⟨x, e1, h _ _ e2⟩
  | .ok (.defer _) _, k | .ok .recover _, k | .ok (.spawn _) _, k | .ok (.comm ..) _, k | .ok .numGoroutine _, k | .ok .collect _, k | .ok (.watch _) _, k | .ok (.newcoro ..) _, k | .ok (.coroswitch ..) _, k
  | .ok (.sleep _) _, k | .ok (.timer _) _, k | .ok (.alone ..) _, k | .ok (.callThen ..) _, k | .ok (.stack ..) _, k | .halt .., k => k.elim

theorem uponIn_of_runs {P : Program} {R : Value → World → Prop} {ro : Option Nat} {o : Oper} {a : Act} {next : Act → World → Prop} {Q : Exit → Act → World → Prop} (hn : ∀ x w, R x w → next (a.put o.dst x) w) :
    ∀ {r : Result Next}, NextRuns P R r → o.uponIn (FW ro) 0 P a next Q r
  | .ok (.value x) w', k => hn _ _ k
  | .ok .skip w', k => hn _ _ k
  | .ok (.enter f args) w', k => by
    have k1 : CallsIn Fence.wide 0 P f args w' fun
      | .returned v, w'' => next (a.put o.dst v) w''
      | .panicked chain, w'' => Q (.panic chain) a w''
      | .outgrown, _ => LetsOut Q := callsIn_wide.2 (Calls.mono k fun e w'' => by rintro ⟨x, rfl, e2⟩; exact hn _ _ e2)
    exact ⟨fun h => by simp [FW] at h, k1⟩
  | .ok (.row row args) w', k => by
    refine ⟨fun h => by simp [FW] at h, fun c cs _ => ?_⟩
    obtain ⟨v, w2, h1, h2⟩ := k c cs
    exact ⟨v, w2, hn _ _ h1, (stepsIn_wide.2 h2 : StepsIn (Machine.fenced P Fence.wide) P _ _)⟩
  | .ok (.round l f tmps as bd) w', k => by
    have k1 : RoundIn Fence.wide 0 P l f tmps as bd w' fun
      | .returned v, w'' => next (a.put o.dst v) w''
      | .panicked chain, w'' => Q (.panic chain) a w''
      | .outgrown, _ => LetsOut Q := RoundIn.mono k fun e w'' => by rintro ⟨x, rfl, e2⟩; exact hn _ _ e2
    exact ⟨fun h => by simp [FW] at h, k1⟩
  | .ok (.defer _) _, k | .ok .recover _, k | .ok (.spawn _) _, k | .ok (.comm ..) _, k | .ok .numGoroutine _, k | .ok .collect _, k | .ok (.watch _) _, k | .ok (.newcoro ..) _, k | .ok (.coroswitch ..) _, k
  | .ok (.sleep _) _, k | .ok (.timer _) _, k | .ok (.alone ..) _, k | .ok (.callThen ..) _, k | .ok (.stack ..) _, k | .halt .., k => k.elim

/-- Calls go as the executor says. -/
structure CallOk (C : Ctx) (fid : Nat → Nat) (call : CallT) : Prop where
  fr : CallFr call
  run : ∀ {G : Gh} {H : Heap} {w : World} {f : V} {args : List V} {v : V} {H' : Heap} {low' : Nat} {xf : Value} {xs : List Value}, RelH C fid G H w → VRel fid G w f xf → VRels fid G w args xs →
    call f args H = some (v, H', low') → ∃ d, (Deferred.ofValue xf ⟨xs⟩).run C.P w = .ok d w ∧ NextRuns C.P (Post C fid G H w v H' low') ((invoke d.target d.args).run C.P w) ∧
      (isFn f = true → isPs args = false → ∃ g as, (invoke d.target d.args).run C.P w = .ok (.enter g as) w)

/-- Whatever was there is as it was. -/
theorem RelH.restore (hR : RelH C fid G H w) (hs : w.heap.size ≤ w'.heap.size) (hk : ∀ b, b < w.heap.size → w'.heap[b]? = w.heap[b]?) : RelH C fid G H w' where
  obj l h e := by
    obtain ⟨o, ho, hr⟩ := hR.obj l h e
    exact ⟨o, ho, hr.mono (.refl _) (fun b hb => ⟨hb, hk b (hR.imm b hb).1⟩) (hk _ (hR.blk l h e))⟩
  inj := hR.inj
  blk l h e := Nat.lt_of_lt_of_le (hR.blk l h e) hs
  imm b hb := ⟨Nat.lt_of_lt_of_le (hR.imm b hb).1 hs, (hR.imm b hb).2⟩
  fzI := hR.fzI
  glob b o hg := ⟨(hR.glob b o hg).1, by rw [hk b (hR.imm b (hR.glob b o hg).1).1]; exact (hR.glob b o hg).2⟩

theorem Ext.restore (hs : w.heap.size ≤ w'.heap.size) (hk : ∀ b, b < w.heap.size → w'.heap[b]? = w.heap[b]?) (h1 : w'.os = w.os) (h3 : w'.output = w.output) (m n : Nat) : Ext G w G w' m n :=
  ⟨hs, h1, h3, fun b hb _ => hk b hb, .refl _, fun _ h hb => .inl ⟨h, hb, .inl rfl⟩, fun _ h => h, fun _ h => .inl h⟩

theorem Ext.keepAll {m n : Nat} (hR : RelH C fid G H w) (h : Ext G w G' w' m n) (hm : H.length ≤ m) : ∀ b, b < w.heap.size → w'.heap[b]? = w.heap[b]? := fun b hb =>
  h.keep b hb fun l x e _ => .inr (Nat.lt_of_lt_of_le (hR.lt e) hm)

theorem execOp_call {o : Oper} {ρ : Operand → Value} {f : Operand} {args : Array Operand} {ts : Array TypeId} (ho : o.op = .call { callee := .value f, args, argTypes := ts }) {P : Program} {w : World} {d : Deferred}
    (hd : (Deferred.ofValue (ρ f) (args.map ρ)).run P w = .ok d w) : (execOp ρ o).run P w = (invoke d.target d.args).run P w := by
  unfold execOp
  simp only [ho, resolve, Sem.run_bind, hd, Result.andThen]

section
variable {vars : List Nat} {ev : Opd → V} {ρ : Operand → Value} {low low' : Nat} {v : V} {o : Oper} {call : CallT}

theorem stepC_sound (hC : CtxOk C fid) (hcall : CallOk C fid call) (hR : RelH C fid G H w) (hρ : OpdRel C fid vars G w ev ρ) (hlow : low ≤ H.length)
    (he : stepC call ev H low (C.op vars o.pos o.op) = some (v, H', low')) : NextRuns C.P (Post C fid G H w v H' low') ((execOp ρ o).run C.P w) := by
  have hplain : (∀ raw f args, C.op vars o.pos o.op ≠ .call raw f args) → NextRuns C.P (Post C fid G H w v H' low') ((execOp ρ o).run C.P w) := fun hne => by
    rw [stepC_eq hne] at he
    obtain ⟨x, w1, G1, hr, h1, h2, h3, -, -⟩ := step_sound hC hR hρ hlow he
    rcases hr with hr | ⟨hr, rfl⟩
    · rw [hr]; exact ⟨G1, h1, h2, h3⟩
    · rw [hr]; exact ⟨G1, h1, h2, h3⟩
  by_cases hne : ∃ raw f args, C.op vars o.pos o.op = .call raw f args
  · obtain ⟨raw, af, aargs, hop⟩ := hne
    have hop0 : C.op0 vars o.pos o.op = some (.call raw af aargs) := by
      unfold Ctx.op at hop
      cases h : C.op0 vars o.pos o.op with
      | none => rw [h] at hop; cases hop
      | some a => rw [h] at hop; simp only [Option.getD_some] at hop; rw [hop]
    obtain ⟨f, args, ts, ho, hf, hargs⟩ : ∃ f args ts, o.op = .call { callee := .value f, args, argTypes := ts } ∧ C.opd vars f = some af ∧ mapO (C.opd vars) args.toList = some aargs := by
      cases ho : o.op with
      | call c =>
        rw [ho] at hop0
        obtain ⟨callee, args, ats⟩ := c
        cases callee with
        | value f =>
          simp only [Ctx.op0] at hop0
          split at hop0
          · rename_i h1 h2
            simp only [Option.some.injEq, AOp.call.injEq] at hop0
            obtain ⟨-, rfl, rfl⟩ := hop0
            exact ⟨f, args, ats, rfl, h1, h2⟩
          · cases hop0
        | builtin b =>
          exfalso
          simp only [Ctx.op0] at hop0
          unfold Ctx.builtin at hop0
          repeat' split at hop0
          all_goals first
            | (cases hop0; done)
            | (simp only [Option.some.injEq, reduceCtorEq] at hop0; done)
            | (obtain ⟨_, _, h⟩ := Option.map_eq_some_iff.1 hop0; cases h; done)
        | invoke r n => simp [Ctx.op0] at hop0
      | binOp a b c d e =>
        exfalso
        rw [ho] at hop0
        simp only [Ctx.op0, Ctx.nilKind] at hop0
        repeat' split at hop0
        all_goals first
          | (cases hop0; done)
          | (obtain ⟨_, _, h⟩ := Option.map_eq_some_iff.1 hop0; cases h; done)
      | makeFunc g a b =>
        exfalso
        rw [ho] at hop0
        cases g with
        | func f =>
          simp only [Ctx.op0] at hop0
          split at hop0 <;> simp at hop0
        | _ => simp [Ctx.op0] at hop0
      | makeMap t r =>
        exfalso
        rw [ho] at hop0
        cases r <;> simp [Ctx.op0] at hop0
      | _ =>
        exfalso
        rw [ho] at hop0
        simp only [Ctx.op0] at hop0
        repeat' split at hop0
        all_goals first
          | (cases hop0; done)
          | (obtain ⟨_, _, h⟩ := Option.map_eq_some_iff.1 hop0; cases h; done)
    have hvf := hρ f af hf
    have hva : VRels fid G w (aargs.map ev) (args.map ρ).toList := by rw [Array.toList_map]; exact mapO_rel hρ hargs
    rw [hop] at he
    have harr : (⟨(args.map ρ).toList⟩ : Array Value) = args.map ρ := rfl
    cases raw with
    | true =>
      simp only [stepC] at he
      split at he
      · rename_i u H2 l h1
        cases he
        obtain ⟨d, hd, hn, -⟩ := hcall.run hR hvf hva h1
        rw [harr] at hd
        rw [execOp_call ho hd]
        refine hn.mono fun x w2 hp => ?_
        obtain ⟨G2, p1, p2, p3⟩ := hp
        exact ⟨G2, p1, fun m hm => p2 m (by omega), p3⟩
      · cases he
    | false =>
      simp only [stepC] at he
      split at he
      · rename_i vs H1 low1 hz
        obtain ⟨G1, fz, hv1⟩ := freezeVs_sound hR hva hz
        have hvf1 := hvf.ext hR (fz.ext 0 (by omega))
        split at he
        · rename_i u H2 l h1
          obtain ⟨d, hd, hn, -⟩ := hcall.run fz.rel hvf1 hv1 h1
          rw [harr] at hd
          rw [execOp_call ho hd]
          refine hn.mono fun x w2 hp => ?_
          obtain ⟨G2, p1, p2, p3⟩ := hp
          split at he
          · rename_i hc
            cases he
            have hE := p2 H1.length hc.2
            have hk := hE.keepAll fz.rel (Nat.le_refl _)
            exact ⟨G, hR.restore hE.size hk, fun m _ => .restore hE.size hk hE.os hE.output m _, p3.flat hc.1⟩
          · cases he
            exact ⟨G2, p1, fun m hm => (fz.ext m (by omega)).trans ((p2 m (by omega)).le (Nat.le_refl _) (Nat.le_of_eq fz.len.symm)), p3⟩
        · cases he
      · cases he
  · exact hplain fun raw f args h => hne ⟨raw, f, args, h⟩

end
end Go.Abs
/- Regions: the executor's order, and every order that the edges allow. -/
namespace Go.Abs
open Go
variable {C : Ctx} {fid : Nat → Nat} {w w' : World} {G G' : Gh} {H H' : Heap}

/-! ### slots -/

def lookS (vars : List Nat) (st : St) (t : Nat) : V := if vars.contains t then lookupE st.vE t else lookupE st.tE t

theorem lookupE_setE (e : Env) (t t' : Nat) (v : V) : lookupE (setE e t v) t' = if t' = t then v else lookupE e t' := by
  induction e with
  | nil =>
    by_cases h : t' = t
    · subst h; simp [setE, lookupE]
    · simp [setE, lookupE, h, Ne.symm h]
  | cons p r ih =>
    obtain ⟨k, u⟩ := p
    simp only [setE]
    split
    · rename_i hk
      subst hk
      by_cases h : t' = k
      · subst h; simp [lookupE]
      · simp [lookupE, h, Ne.symm h]
    · rename_i hk
      simp only [lookupE]
      split
      · rename_i h
        rw [if_neg (by omega)]
      · exact ih

theorem lookS_put (vars : List Nat) (st : St) (d : Nat) (v : V) (t : Nat) : lookS vars (st.put (some (d, vars.contains d)) v) t = if t = d then v else lookS vars st t := by
  unfold lookS
  cases hd : vars.contains d
  · simp only [St.put]
    by_cases h : t = d
    · subst h; rw [if_neg (by rw [hd]; exact Bool.false_ne_true), if_pos rfl]; simp [lookupE]
    · rw [if_neg h]
      simp only [lookupE, if_neg (Ne.symm h)]
  · simp only [St.put, lookupE_setE]
    by_cases h : t = d
    · subst h; simp only [hd, if_true]
    · simp only [if_neg h]

theorem lookS_set (vars : List Nat) (st : St) (H : Heap) (low : Nat) : lookS vars { st with H := H, low := low } = lookS vars st := rfl

theorem getD_put (a : Act) (d : Nat) (x : Value) (t : Nat) (hd : d < a.tmps.size) : (a.put (some d) x).tmps.getD t undef = if t = d then x else a.tmps.getD t undef := by
  simp only [Act.put]
  by_cases h : t = d
  · subst h; simp [Array.getD, hd]
  · rw [if_neg h]
    simp only [Array.getD_eq_getD_getElem?, Array.getElem?_setIfInBounds_ne (Ne.symm h)]

theorem put_size (a : Act) (d : Option Tmp) (x : Value) : (a.put d x).tmps.size = a.tmps.size := by cases d <;> simp [Act.put]
theorem put_defers (a : Act) (d : Option Tmp) (x : Value) : (a.put d x).defers = a.defers := by cases d <;> simp [Act.put]

/-! ### what an operation of the program has become -/

structure OperOk (C : Ctx) (vars : List Nat) (N : Nat) (ops : Array Oper) (o : Oper) (ao : AOper) : Prop where
  op : ao.op = C.op vars o.pos o.op
  dst : (o.dst = none ∧ ao.dst = none) ∨ ∃ d, d < N ∧ o.dst = some d ∧ ao.dst = some (d, vars.contains d)
  guard : Ctx.guard vars ops o.guard = some ao.guard

theorem oper_ok {vars : List Nat} {N : Nat} {ops : Array Oper} {o : Oper} {ao : AOper} (h : C.oper vars N ops o = some ao) : OperOk C vars N ops o ao := by
  unfold Ctx.oper at h
  split at h
  · rename_i g hg
    split at h
    · rename_i hd
      cases h
      exact ⟨rfl, .inl ⟨hd, rfl⟩, hg⟩
    · rename_i d hd
      split at h
      · rename_i hlt
        cases h
        exact ⟨rfl, .inr ⟨d, hlt, hd, rfl⟩, hg⟩
      · cases h
  · cases h

/-- One operation of the executor. -/
def OpStep (call : CallT) (ao : AOper) (S S' : St) (fl : Bool) : Prop :=
  (wantedA S.tE S.vE ao.guard = some true ∧ ∃ v H' low', stepC call (Opd.ev S.tE S.vE) S.H S.H.length ao.op = some (v, H', low') ∧
    S' = ({ S with H := H', low := min S.low low' } : St).put ao.dst v ∧ fl = movedH S.H H' low') ∨
  (wantedA S.tE S.vE ao.guard = some false ∧ S' = S.put ao.dst (.tup []) ∧ fl = false)

theorem execOps_trace {call : CallT} : ∀ (aops : List AOper) (st st' : St) (wr wr' : List Bool), execOps call aops st wr = some (st', wr') →
    ∃ (S : Nat → St) (fl : Nat → Bool), S 0 = st ∧ S aops.length = st' ∧ wr' = wr.reverse ++ (List.range aops.length).map fl ∧ ∀ i ao, aops[i]? = some ao → OpStep call ao (S i) (S (i + 1)) (fl i)
  | [], st, st', wr, wr', he => by
    simp only [execOps, Option.some.injEq, Prod.mk.injEq] at he
    obtain ⟨rfl, rfl⟩ := he
    exact ⟨fun _ => st, fun _ => false, rfl, rfl, by simp, fun i ao h => by simp at h⟩
  | o :: r, st, st', wr, wr', he => by
    have key : ∀ (st1 : St) (b : Bool), OpStep call o st st1 b → execOps call r st1 (b :: wr) = some (st', wr') → ∃ (S : Nat → St) (fl : Nat → Bool), S 0 = st ∧ S (o :: r).length = st' ∧
        wr' = wr.reverse ++ (List.range (o :: r).length).map fl ∧ ∀ i ao, (o :: r)[i]? = some ao → OpStep call ao (S i) (S (i + 1)) (fl i) := fun st1 b hs h => by
      obtain ⟨S, fl, h0, h1, h2, h3⟩ := execOps_trace r _ _ _ _ h
      refine ⟨fun i => match i with | 0 => st | i + 1 => S i, fun i => match i with | 0 => b | i + 1 => fl i, rfl, by simpa using h1, ?_, fun i ao hi => ?_⟩
      · rw [h2, List.length_cons, List.range_succ_eq_map, List.map_cons, List.map_map, List.reverse_cons, List.append_assoc]
        rfl
      · cases i with
        | zero =>
          simp only [List.getElem?_cons_zero, Option.some.injEq] at hi
          subst hi
          simpa [h0] using hs
        | succ i => exact h3 i ao (by simpa using hi)
    simp only [execOps] at he
    split at he
    · rename_i hw
      split at he
      · rename_i v H1 low1 h1
        exact key _ _ (.inl ⟨hw, v, H1, low1, h1, rfl, rfl⟩) he
      · cases he
    · rename_i hw
      exact key _ _ (.inr ⟨hw, rfl, rfl⟩) he
    · cases he

mutual
theorem eqV_eq : ∀ a b : V, eqV a b = true → a = b
  | .bool a, .bool b, h => by simp only [eqV, beq_iff_eq] at h; rw [h]
  | .int k n, .int k' m, h => by simp only [eqV, Bool.and_eq_true, decide_eq_true_eq] at h; rw [h.1, h.2]
  | .str s, .str s', h => by simp only [eqV, decide_eq_true_eq] at h; rw [h]
  | .nil0, .nil0, _ => rfl
  | .emp, .emp, _ => rfl
  | .nilp, .nilp, _ => rfl
  | .nilm, .nilm, _ => rfl
  | .nilf, .nilf, _ => rfl
  | .nili, .nili, _ => rfl
  | .undef, .undef, _ => rfl
  | .list e ds, .list e' ds', h => by simp only [eqV, Bool.and_eq_true, decide_eq_true_eq] at h; rw [h.1, eqVs_eq _ _ h.2]
  | .agg a, .agg b, h => by simp only [eqV] at h; rw [eqVs_eq _ _ h]
  | .tup a, .tup b, h => by simp only [eqV] at h; rw [eqVs_eq _ _ h]
  | .ptr l o, .ptr l' o', h => by simp only [eqV, Bool.and_eq_true, decide_eq_true_eq] at h; rw [h.1, h.2]
  | .eptr a b c d e, .eptr a' b' c' d' e', h => by simp only [eqV, Bool.and_eq_true, decide_eq_true_eq] at h; rw [h.1, h.2.1, h.2.2.1, h.2.2.2.1, h.2.2.2.2]
  | .pin vs f, .pin vs' f', h => by simp only [eqV, Bool.and_eq_true, decide_eq_true_eq] at h; rw [eqVs_eq _ _ h.1, h.2]
  | .sref a b c d e, .sref a' b' c' d' e', h => by simp only [eqV, Bool.and_eq_true, decide_eq_true_eq] at h; rw [h.1, h.2.1, h.2.2.1, h.2.2.2.1, h.2.2.2.2]
  | .map l, .map l', h => by simp only [eqV, decide_eq_true_eq] at h; rw [h]
  | .yield l, .yield l', h => by simp only [eqV, decide_eq_true_eq] at h; rw [h]
  | .fn i a b, .fn i' a' b', h => by simp only [eqV, Bool.and_eq_true, decide_eq_true_eq] at h; rw [h.1, eqVs_eq _ _ h.2.1, eqVs_eq _ _ h.2.2]
  | .iface t v, .iface t' v', h => by simp only [eqV, Bool.and_eq_true, decide_eq_true_eq] at h; rw [h.1, eqV_eq _ _ h.2]
theorem eqVs_eq : ∀ a b : List V, eqVs a b = true → a = b
  | [], [], _ => rfl
  | a :: r, b :: s, h => by simp only [eqVs, Bool.and_eq_true] at h; rw [eqV_eq _ _ h.1, eqVs_eq _ _ h.2]
end

/-- The states ahead of the operations are those of the run. -/
theorem traceOps_get {call : CallT} : ∀ (aops : List AOper) (S : Nat → St) (fl : Nat → Bool) (tr : List St), (∀ (i : Nat) ao, aops[i]? = some ao → OpStep call ao (S i) (S (i + 1)) (fl i)) → traceOps call aops (S 0) = some tr →
    ∀ k, k ≤ aops.length → tr[k]? = some (S k)
  | [], S, fl, tr, hs, ht, k, hk => by
    simp only [traceOps, Option.some.injEq] at ht
    subst ht
    have : k = 0 := by simpa using hk
    subst this; rfl
  | o :: r, S, fl, tr, hs, ht, k, hk => by
    have h0 := hs 0 o rfl
    have hrec : ∀ tr', traceOps call r (S 1) = some tr' → ∀ k, k ≤ r.length → tr'[k]? = some (S (k + 1)) := fun tr' h => traceOps_get r (fun i => S (i + 1)) (fun i => fl (i + 1)) tr' (fun i ao hi => hs (i + 1) ao (by simpa using hi)) h
    simp only [traceOps] at ht
    have fin : ∀ S1, S1 = S 1 → (traceOps call r S1).map (S 0 :: ·) = some tr → tr[k]? = some (S k) := fun S1 e h => by
      subst e
      obtain ⟨x, hx, rfl⟩ := Option.map_eq_some_iff.1 h
      cases k with
      | zero => rfl
      | succ k => simpa using hrec x hx k (by simpa using hk)
    rcases h0 with ⟨hw, v, H1, low1, h1, e, -⟩ | ⟨hw, e, -⟩
    · rw [hw] at ht
      simp only [h1] at ht
      exact fin _ e.symm ht
    · rw [hw] at ht
      simp only at ht
      exact fin _ e.symm ht

theorem OpStep.fr {call : CallT} (hc : CallFr call) {ao : AOper} {S S' : St} {fl : Bool} (h : OpStep call ao S S' fl) : FrS S S' := by
  rcases h with ⟨-, v, H1, low1, h1, rfl, -⟩ | ⟨-, rfl, -⟩
  · have hp := put_H { S with H := H1, low := min S.low low1 } ao.dst v
    exact ⟨by rw [hp.1, hp.2.1]; exact (stepC_fr hc (Nat.le_refl _) h1).lift _, hp.2.2⟩
  · have hp := put_H S ao.dst (.tup [])
    exact ⟨by rw [hp.1, hp.2.1]; exact .refl _ _, hp.2.2⟩

theorem OpStep.still {call : CallT} (hc : CallFr call) {ao : AOper} {S S' : St} {fl : Bool} (h : OpStep call ao S S' fl) (hf : fl = false) : S'.H = S.H := by
  rcases h with ⟨-, v, H1, low1, h1, rfl, h2⟩ | ⟨-, rfl, -⟩
  · have hp := put_H { S with H := H1, low := min S.low low1 } ao.dst v
    rw [hp.1]; exact movedH_false (stepC_fr hc (Nat.le_refl _) h1) (h2.symm.trans hf)
  · exact (put_H S ao.dst (.tup [])).1

theorem OpStep.touches {call : CallT} {ao : AOper} {S S' : St} {fl : Bool} (h : OpStep call ao S S' fl) (hf : fl = true) : touches ao.op = true := by
  rcases h with ⟨-, v, H1, low1, h1, rfl, h2⟩ | ⟨-, rfl, h2⟩
  · cases ht : Abs.touches ao.op with
    | true => rfl
    | false =>
      exfalso
      have hne : ∀ raw f args, ao.op ≠ .call raw f args := fun raw f args e => by rw [e] at ht; simp [Abs.touches] at ht
      rw [stepC_eq hne] at h1
      obtain ⟨rfl, rfl, -⟩ := step_still ht h1
      rw [hf] at h2
      simp [movedH] at h2
  · rw [h2] at hf; cases hf

theorem OpStep.look {call : CallT} {vars : List Nat} {N : Nat} {ops : Array Oper} {o : Oper} {ao : AOper} {S S' : St} {fl : Bool} (h : OpStep call ao S S' fl) (hao : OperOk C vars N ops o ao) {t : Nat} (ht : o.dst ≠ some t) :
    lookS vars S' t = lookS vars S t := by
  have key : ∀ (st : St) (v : V), lookS vars (st.put ao.dst v) t = lookS vars st t := fun st v => by
    rcases hao.dst with ⟨-, h2⟩ | ⟨d, -, h1, h2⟩
    · rw [h2]; rfl
    · rw [h2, lookS_put, if_neg (fun e => ht (by rw [h1, e]))]
  rcases h with ⟨-, v, H1, low1, h1, rfl, -⟩ | ⟨-, rfl, -⟩
  · rw [key]; rfl
  · rw [key]

/-! ### one operation -/

/-- What an operation may see. -/
def seenO (T : Nat → Prop) : Opd → Prop
  | .tmp t | .var t => T t
  | _ => True

theorem guard_rel {vars : List Nat} {ops : Array Oper} {o : Oper} {ag : Option (Opd × Bool)} (hg : Ctx.guard vars ops o.guard = some ag) {S : St} {a : Act} {b : Bool}
    (hs : ∀ j want d, o.guard = some (j, want) → (ops[j]?).bind (·.dst) = some d → VRel fid G w (lookS vars S d) (a.tmps.getD d undef)) (hw : wantedA S.tE S.vE ag = some b) :
    Region.wanted o (yielded ops a.tmps) = b := by
  unfold Region.wanted
  cases hog : o.guard with
  | none =>
    rw [hog] at hg
    simp only [Ctx.guard, Option.some.injEq] at hg
    subst hg
    simp only [wantedA, Option.some.injEq] at hw
    exact hw
  | some p =>
    obtain ⟨j, want⟩ := p
    rw [hog] at hg
    simp only [Ctx.guard] at hg
    split at hg
    · rename_i d hd
      simp only [Option.some.injEq] at hg
      subst hg
      have hv := hs j want d hog hd
      have hev : ((if vars.contains d then Opd.var d else Opd.tmp d).ev S.tE S.vE) = lookS vars S d := by
        unfold lookS; split <;> rfl
      simp only [wantedA, hev] at hw
      have hy : yielded ops a.tmps j = match a.tmps.getD d undef with | .bool c => some c | _ => none := by
        unfold yielded
        rw [hd]
        simp only [Option.bind_some, Array.getD_eq_getD_getElem?]
        cases a.tmps[d]? with
        | none => rfl
        | some x => cases x <;> rfl
      dsimp only
      rw [hy]
      split at hw
      · rename_i c hc
        rw [hc] at hv
        rw [hv.boolInv]
        simp only [Option.some.injEq] at hw
        rw [← hw]
        cases c <;> cases want <;> rfl
      · rename_i hc
        rw [hc] at hv
        obtain ⟨vals, hx, hr⟩ := hv.tupInv
        rw [hx]
        simp only [Option.some.injEq] at hw
        rw [← hw]
        rfl
      · cases hw
    · cases hg

theorem op_wp {vars : List Nat} {N : Nat} {ops : Array Oper} {o : Oper} {ao : AOper} {S S' : St} {fl : Bool} {call : CallT} {j : Nat} {Hc : Heap} {a : Act} {T : Nat → Prop} {K : Act → World → Prop}
    {Q : Exit → Act → World → Prop} {ro : Option Nat} (hC : CtxOk C fid) (hcall : CallOk C fid call) (ho : ops[j]? = some o) (hao : OperOk C vars N ops o ao) (hst : OpStep call ao S S' fl)
    (hR : RelH C fid G Hc w) (hH : touches ao.op = true → Hc = S.H ∨ (fl = false ∧ (wantedA S.tE S.vE ao.guard = some true → ∀ v H1 low1, stepC call (Opd.ev S.tE S.vE) S.H S.H.length ao.op = some (v, H1, low1) → ∃ H2 low2, stepC call (Opd.ev S.tE S.vE) Hc Hc.length ao.op = some (v, H2, low2) ∧ movedH Hc H2 low2 = false))) (hlow : S.low ≤ Hc.length)
    (hsee : ∀ t, T t → VRel fid G w (lookS vars S t) (a.tmps.getD t undef))
    (hT : ∀ x ∈ ao.op.operands, seenO T x) (hTg : ∀ k want d, o.guard = some (k, want) → (ops[k]?).bind (·.dst) = some d → T d) (hsz : a.tmps.size = N)
    (hK : ∀ x w' G', RelH C fid G' (if fl then S'.H else Hc) w' → (∀ m, m ≤ S'.low → Ext G w G' w' m Hc.length) → (∀ t, o.dst = some t → VRel fid G' w' (lookS vars S' t) x) → K (a.put o.dst x) w') :
    wpOpIn (FW ro) 0 C.P ops Q j K a w := by
  have hwant : ∀ b, wantedA S.tE S.vE ao.guard = some b → Region.wanted o (yielded ops a.tmps) = b := fun b hb =>
    guard_rel (fid := fid) (G := G) (w := w) hao.guard (S := S) (a := a) (fun k want d h1 h2 => hsee d (hTg k want d h1 h2)) hb
  have hput : ∀ (st : St) (v : V) (t : Nat), o.dst = some t → lookS vars (st.put ao.dst v) t = v := fun st v t ht => by
    rcases hao.dst with ⟨h1, -⟩ | ⟨d, -, h1, h2⟩
    · rw [h1] at ht; cases ht
    · rw [h1] at ht; cases ht
      rw [h2, lookS_put, if_pos rfl]
  unfold wpOpIn
  rw [ho]
  rcases hst with ⟨hw, v, H1, low1, h1, rfl, hfl⟩ | ⟨hw, rfl, hfl⟩
  · simp only [hwant _ hw, if_true]
    refine ⟨fun _ _ => trivial, ?_⟩
    let ev' : Opd → V := fun ax => open Classical in if ax ∈ ao.op.operands then Opd.ev S.tE S.vE ax else .undef
    have hcong : ∀ H low, stepC call (Opd.ev S.tE S.vE) H low ao.op = stepC call ev' H low ao.op := fun H low => stepC_congr fun x hx => by simp [ev', hx]
    have hρ : OpdRel C fid vars G w ev' a.eval := fun x ax hx => by
      by_cases hin : ax ∈ ao.op.operands
      · have hT' := hT ax hin
        simp only [ev', hin, if_true]
        cases x with
        | tmp t =>
          simp only [Ctx.opd, Option.some.injEq] at hx
          have hTt : T t := by rw [← hx] at hT'; split at hT' <;> exact hT'
          have := hsee t hTt
          have e : ax.ev S.tE S.vE = lookS vars S t := by rw [← hx]; unfold lookS; split <;> rfl
          rw [e]; exact this
        | const u =>
          simp only [Ctx.opd] at hx
          obtain ⟨cv, hcv, rfl⟩ := Option.map_eq_some_iff.1 hx
          rcases constV_sound (I := G.I) (w := w) u hcv with rfl | hp
          · exact .undef _
          · exact .p _ _ hp
        | func f => exact opd_func hC hx
        | global g => simp [Ctx.opd] at hx
      · simp only [ev', hin, if_false]; exact .undef _
    have hsem : o.semAt (FW ro).round a.eval = execOp a.eval o := Oper.semAt_eq _ _ _ fun c hc => by
      rw [hao.op, hc] at h1
      simp [Ctx.op, Ctx.op0, stepC, step] at h1
    rw [hsem]
    have hpH := put_H { S with H := H1, low := min S.low low1 } ao.dst v
    by_cases ht : touches ao.op = true
    · rcases hH ht with e | ⟨hff, hall⟩
      case inr =>
        obtain ⟨H2, low2, h2, hm2⟩ := hall hw v H1 low1 h1
        have hfr2 := stepC_fr hcall.fr (Nat.le_refl _) h2
        have hH2 := movedH_false hfr2 hm2
        have hlow2 : Hc.length ≤ low2 := by
          unfold movedH at hm2
          simp only [Bool.or_eq_false_iff, decide_eq_false_iff_not] at hm2
          omega
        rw [hH2] at h2
        rw [hcong, hao.op] at h2
        refine uponIn_of_runs (R := Post C fid G Hc w v Hc low2) (fun x w2 hp => ?_) (stepC_sound hC hcall hR hρ (Nat.le_refl _) h2)
        obtain ⟨G2, p1, p2, p3⟩ := hp
        refine hK x w2 G2 (by rw [hff]; exact p1) (fun m hm => p2 m ?_) (fun t ht => by rw [hput _ _ _ ht]; exact p3)
        rw [hpH.2.1] at hm
        have : m ≤ S.low := Nat.le_trans hm (Nat.min_le_left _ _)
        omega
      subst e
      rw [hcong, hao.op] at h1
      refine uponIn_of_runs (R := Post C fid G S.H w v H1 low1) (fun x w2 hp => ?_) (stepC_sound hC hcall hR hρ (Nat.le_refl _) h1)
      obtain ⟨G2, p1, p2, p3⟩ := hp
      refine hK x w2 G2 ?_ (fun m hm => p2 m (by rw [hpH.2.1] at hm; exact Nat.le_trans hm (Nat.min_le_right _ _))) (fun t ht => by rw [hput _ _ _ ht]; exact p3)
      rw [hpH.1]
      cases fl with
      | true => exact p1
      | false =>
        have := movedH_false (stepC_fr hcall.fr (Nat.le_refl _) h1) hfl.symm
        rw [this] at p1
        exact p1
    · have ht' : touches ao.op = false := by simpa using ht
      have hne : ∀ raw f args, ao.op ≠ .call raw f args := fun raw f args e => by rw [e] at ht'; simp [touches] at ht'
      have h1' := h1
      rw [stepC_eq hne] at h1'
      obtain ⟨rfl, rfl, hall⟩ := step_still ht' h1'
      have hflf : fl = false := by rw [hfl]; simp [movedH]
      have h2 := hall Hc Hc.length
      rw [← stepC_eq (call := call) hne, hcong, hao.op] at h2
      refine uponIn_of_runs (R := Post C fid G Hc w v Hc Hc.length) (fun x w2 hp => ?_) (stepC_sound hC hcall hR hρ (Nat.le_refl _) h2)
      obtain ⟨G2, p1, p2, p3⟩ := hp
      refine hK x w2 G2 (by rw [hflf]; exact p1) (fun m hm => p2 m ?_) (fun t ht => by rw [hput _ _ _ ht]; exact p3)
      rw [hpH.2.1] at hm
      have : m ≤ S.low := Nat.le_trans hm (Nat.min_le_left _ _)
      omega
  · have := hwant _ hw
    dsimp only
    rw [if_neg (by rw [this]; simp)]
    refine ⟨fun _ _ => trivial, ?_⟩
    refine hK undef w G ?_ (fun m _ => .refl _ _ _ _) (fun t ht => ?_)
    · rw [hfl]; exact hR
    · rw [hput _ _ _ ht]; exact .tup [] [] .nil

end Go.Abs
/- Regions, whole: in the order of the numbers, and in every order that the edges allow. -/
namespace Go.Abs
open Go
variable {C : Ctx} {fid : Nat → Nat} {w w' : World} {G G' : Gh} {H H' : Heap}

/-- The executor's state against the machine's. -/
structure RelSt (C : Ctx) (fid : Nat → Nat) (vars : List Nat) (N : Nat) (G : Gh) (st : St) (a : Act) (w : World) : Prop where
  rel : RelH C fid G st.H w
  env : ∀ t, VRel fid G w (lookS vars st t) (a.tmps.getD t undef)
  size : a.tmps.size = N
  low : st.low ≤ st.H.length

/-- A region's operations, one after the other. -/
structure Tr (C : Ctx) (vars : List Nat) (N : Nat) (ops : Array Oper) (aops : List AOper) (call : CallT) (S : Nat → St) (fl : Nat → Bool) : Prop where
  len : aops.length = ops.size
  ok : ∀ (i : Nat) o ao, ops[i]? = some o → aops[i]? = some ao → OperOk C vars N ops o ao
  step : ∀ (i : Nat) ao, aops[i]? = some ao → OpStep call ao (S i) (S (i + 1)) (fl i)

section
variable {vars : List Nat} {N : Nat} {ops : Array Oper} {aops : List AOper} {call : CallT} {S : Nat → St} {fl : Nat → Bool}

theorem Tr.get (h : Tr C vars N ops aops call S fl) {i : Nat} (hi : i < ops.size) : ∃ o ao, ops[i]? = some o ∧ aops[i]? = some ao ∧ OperOk C vars N ops o ao ∧ OpStep call ao (S i) (S (i + 1)) (fl i) := by
  have h1 : ops[i]? = some ops[i] := by simp [hi]
  have h2 : aops[i]? = some (aops[i]'(by rw [h.len]; exact hi)) := by simp
  exact ⟨_, _, h1, h2, h.ok i _ _ h1 h2, h.step i _ h2⟩

theorem Tr.of (hm : mapO (C.oper vars N ops) ops.toList = some aops) (hs : ∀ (i : Nat) ao, aops[i]? = some ao → OpStep call ao (S i) (S (i + 1)) (fl i)) : Tr C vars N ops aops call S fl :=
  ⟨by rw [mapO_length _ hm]; simp, fun i o ao h1 h2 => oper_ok (mapO_get _ hm (by rw [Array.getElem?_toList]; exact h1) h2), hs⟩

theorem Tr.fr (h : Tr C vars N ops aops call S fl) (hc : CallFr call) {i : Nat} : ∀ {k : Nat}, i + k ≤ ops.size → FrS (S i) (S (i + k))
  | 0, _ => .refl _
  | k + 1, hk => by
    obtain ⟨o, ao, -, -, -, hs⟩ := h.get (i := i + k) (by omega)
    exact (h.fr hc (k := k) (by omega)).trans (hs.fr hc)

theorem Tr.fr' (h : Tr C vars N ops aops call S fl) (hc : CallFr call) {i j : Nat} (hij : i ≤ j) (hj : j ≤ ops.size) : FrS (S i) (S j) := by
  obtain ⟨k, rfl⟩ := Nat.exists_eq_add_of_le hij
  exact h.fr hc hj

/-- No operation between them changed the heap. -/
theorem Tr.heap (h : Tr C vars N ops aops call S fl) (hc : CallFr call) {i : Nat} : ∀ {k : Nat}, i + k ≤ ops.size → (∀ x, i ≤ x → x < i + k → fl x = false) → (S (i + k)).H = (S i).H
  | 0, _, _ => rfl
  | k + 1, hk, hf => by
    obtain ⟨o, ao, -, -, -, hs⟩ := h.get (i := i + k) (by omega)
    have := hs.still hc (hf (i + k) (by omega) (by omega))
    exact this.trans (h.heap hc (k := k) (by omega) fun x h1 h2 => hf x h1 (by omega))

/-- No operation between them wrote the slot. -/
theorem Tr.slot (h : Tr C vars N ops aops call S fl) {t : Nat} {i : Nat} : ∀ {k : Nat}, i + k ≤ ops.size → (∀ (x : Nat) o, i ≤ x → x < i + k → ops[x]? = some o → o.dst ≠ some t) → lookS vars (S (i + k)) t = lookS vars (S i) t
  | 0, _, _ => rfl
  | k + 1, hk, hf => by
    obtain ⟨o, ao, ho, -, hok, hs⟩ := h.get (i := i + k) (by omega)
    have := hs.look (t := t) hok (hf (i + k) o (by omega) (by omega) ho)
    exact this.trans (h.slot (k := k) (by omega) fun x o h1 h2 => hf x o h1 (by omega))

theorem lookS_clear (vars : List Nat) (st : St) (t : Nat) : lookS vars { st with tE := [] } t = lookS vars st t ∨ lookS vars { st with tE := [] } t = .undef := by
  unfold lookS
  split
  · exact .inl rfl
  · exact .inr rfl

theorem RelSt.clear {st : St} {a : Act} (h : RelSt C fid vars N G st a w) : RelSt C fid vars N G { st with tE := [] } a w :=
  ⟨h.rel, fun t => by rcases lookS_clear vars st t with e | e <;> rw [e]; exact h.env t; exact .undef _, h.size, h.low⟩

theorem RelSt.sameHeap {st : St} {a : Act} (h : RelSt C fid vars N G st a w) (e : w'.heap = w.heap) : RelSt C fid vars N G st a w' :=
  ⟨h.rel.sameHeap e, fun t => (h.env t).mono (.refl _) fun b hb => ⟨hb, by rw [e]⟩, h.size, h.low⟩

/-- The new state of the slots. -/
theorem env_put {o : Oper} {a : Act} {x : Value} {t : Nat} {G2 : Gh} {w2 : World} (hd : ∀ d, o.dst = some d → d < a.tmps.size) {v : V} (h1 : o.dst = some t → VRel fid G2 w2 v x)
    (h2 : o.dst ≠ some t → VRel fid G2 w2 v (a.tmps.getD t undef)) : VRel fid G2 w2 v ((a.put o.dst x).tmps.getD t undef) := by
  cases hdst : o.dst with
  | none => simp only [Act.put]; exact h2 (by rw [hdst]; simp)
  | some d =>
    rw [getD_put _ _ _ _ (hd d hdst)]
    by_cases e : t = d
    · subst e; rw [if_pos rfl]; exact h1 hdst
    · rw [if_neg e]; exact h2 (by rw [hdst]; simpa using Ne.symm e)

theorem OperOk.lt {o : Oper} {ao : AOper} (h : OperOk C vars N ops o ao) : ∀ d, o.dst = some d → d < N := fun d hd => by
  rcases h.dst with ⟨h1, -⟩ | ⟨d', h0, h1, -⟩
  · rw [h1] at hd; cases hd
  · rw [h1] at hd; cases hd; exact h0

theorem region_seq {id : Nat} {st st' : St} {wr : List Bool} {a : Act} {Q : Exit → Act → World → Prop} {ro : Option Nat} (hC : CtxOk C fid) (hcall : CallOk C fid call) (hm : mapO (C.oper vars N ops) ops.toList = some aops)
    (he : execOps call aops { st with tE := [] } [] = some (st', wr)) (hR : RelSt C fid vars N G st a w)
    (hQ : ∀ G' a' w', RelSt C fid vars N G' st' a' w' → (∀ m, m ≤ st'.low → Ext G w G' w' m st.H.length) → a'.defers = a.defers → Q .normal a' w') :
    (Code.region id ops false).wpIn (FW ro) 0 C.P Q a w := by
  obtain ⟨S, fl, h0, hn, -, hs⟩ := execOps_trace _ _ _ _ _ he
  have T : Tr C vars N ops aops call S fl := .of hm hs
  have key : ∀ k j, j + k = ops.size → ∀ G1 a1 w1, RelSt C fid vars N G1 (S j) a1 w1 → (∀ m, m ≤ (S j).low → Ext G w G1 w1 m st.H.length) → a1.defers = a.defers → st.H.length ≤ (S j).H.length →
      wpOpsIn (FW ro) 0 C.P ops Q (List.range' j k) a1 w1 := by
    intro k
    induction k with
    | zero =>
      intro j hj G1 a1 w1 r1 r2 r3 _
      have e : j = aops.length := by rw [T.len]; omega
      subst e
      rw [hn] at r1 r2
      exact hQ G1 a1 w1 r1 r2 r3
    | succ k ih =>
      intro j hj G1 a1 w1 r1 r2 r3 r4
      obtain ⟨o, ao, ho, hao, hok, hst⟩ := T.get (i := j) (by omega)
      rw [List.range'_succ, wpOpsIn_cons]
      have hfr := hst.fr hcall.fr
      refine op_wp (T := fun _ => True) hC hcall ho hok hst r1.rel (fun _ => .inl rfl) r1.low (fun t _ => r1.env t) (fun x _ => by cases x <;> trivial) (fun _ _ _ _ _ => trivial) r1.size ?_
      intro x w2 G2 p1 p2 p3
      have p1' : RelH C fid G2 (S (j + 1)).H w2 := by
        cases hf : fl j with
        | true => rw [hf] at p1; exact p1
        | false => rw [hf] at p1; rw [hst.still hcall.fr hf]; exact p1
      have hx0 := p2 0 (Nat.zero_le _)
      refine ih (j + 1) (by omega) G2 _ w2 ⟨p1', fun t => ?_, by rw [put_size]; exact r1.size, hfr.bound r1.low⟩ (fun m hm => (r2 m (Nat.le_trans hm hfr.1.low)).trans ((p2 m hm).le (Nat.le_refl _) r4)) (by rw [put_defers]; exact r3)
        (Nat.le_trans r4 hfr.1.len)
      refine env_put (fun d hd => by rw [r1.size]; exact hok.lt d hd) (fun h => p3 t h) (fun h => ?_)
      rw [hst.look hok h]
      exact (r1.env t).ext r1.rel hx0
  refine wpIn_region ?_
  rw [List.range_eq_range']
  have hR0 := hR.clear
  rw [← h0] at hR0
  exact key ops.size 0 (by omega) G a w hR0 (fun m _ => .refl _ _ _ _) rfl (by rw [h0]; exact Nat.le_refl _)

/-! ### every order -/

theorem before_fold : ∀ (l : List Oper) (A : Array Nat), let B := l.foldl (fun acc o => acc.push (CheckFast.one (fun i => acc.getD i 0) o)) A
    B.size = A.size + l.length ∧ (∀ i, i < A.size → B.getD i 0 = A.getD i 0) ∧ ∀ k o, l[k]? = some o → B.getD (A.size + k) 0 = CheckFast.one (fun i => if i < A.size + k then B.getD i 0 else 0) o
  | [], A => ⟨by simp, fun _ _ => rfl, fun k o h => by simp at h⟩
  | o :: l, A => by
    intro B
    obtain ⟨h1, h2, h3⟩ := before_fold l (A.push (CheckFast.one (fun i => A.getD i 0) o))
    have hB : B = l.foldl (fun acc o => acc.push (CheckFast.one (fun i => acc.getD i 0) o)) (A.push (CheckFast.one (fun i => A.getD i 0) o)) := rfl
    rw [← hB] at h1 h2 h3
    simp only [Array.size_push] at h1 h2 h3
    have hA : ∀ i, i < A.size → B.getD i 0 = A.getD i 0 := fun i hi => by
      rw [h2 i (by omega)]
      simp only [Array.getD_eq_getD_getElem?, Array.getElem?_push, if_neg (Nat.ne_of_lt hi)]
    refine ⟨by simp only [List.length_cons]; omega, hA, fun k p hk => ?_⟩
    cases k with
    | zero =>
      simp only [List.getElem?_cons_zero, Option.some.injEq] at hk
      subst hk
      rw [Nat.add_zero, h2 A.size (by omega)]
      simp only [Array.getD_eq_getD_getElem?, Array.getElem?_push, if_pos, Option.getD_some]
      congr 1
      funext i
      by_cases hi : i < A.size
      · rw [if_pos hi]
        have := hA i hi
        simp only [Array.getD_eq_getD_getElem?] at this
        exact this.symm
      · rw [if_neg hi]; simp [Array.getElem?_eq_none (Nat.le_of_not_lt hi)]
    | succ k =>
      have := h3 k p (by simpa using hk)
      rw [Nat.add_right_comm] at this
      rw [← Nat.add_assoc]
      exact this

theorem one_bits {look : Nat → Nat} {o : Oper} {i : Nat} (h : (CheckFast.one look o).testBit i = true) : ∃ e ∈ o.after, Region.binds .any e = true ∧ (i = e.on ∨ (look e.on).testBit i = true) := by
  unfold CheckFast.one at h
  rw [← Array.foldl_toList] at h
  have key : ∀ (l : List Edge) (s : Nat), (l.foldl (fun s e => if Region.binds .any e then s ||| 2 ^ e.on ||| look e.on else s) s).testBit i = true → s.testBit i = true ∨ ∃ e ∈ l, Region.binds .any e = true ∧ (i = e.on ∨ (look e.on).testBit i = true) := by
    intro l
    induction l with
    | nil => exact fun s h => .inl h
    | cons e l ih =>
      intro s h
      rw [List.foldl_cons] at h
      rcases ih _ h with h1 | ⟨e', he', h2⟩
      · split at h1
        · rename_i hb
          rw [Nat.testBit_or, Nat.testBit_or, Nat.testBit_two_pow] at h1
          simp only [Bool.or_eq_true, decide_eq_true_eq] at h1
          rcases h1 with (h1 | h1) | h1
          · exact .inl h1
          · exact .inr ⟨e, by simp, hb, .inl h1.symm⟩
          · exact .inr ⟨e, by simp, hb, .inr h1⟩
        · exact .inl h1
      · exact .inr ⟨e', by simp [he'], h2⟩
  rcases key _ _ h with h1 | ⟨e, he, h2⟩
  · simp at h1
  · exact ⟨e, Array.mem_toList_iff.1 he, h2⟩

theorem before_bits {ops : Array Oper} {j i : Nat} {o : Oper} (ho : ops[j]? = some o) (h : ((CheckFast.beforeF ops).getD j 0).testBit i = true) :
    ∃ e ∈ o.after, Region.binds .any e = true ∧ (i = e.on ∨ ((CheckFast.beforeF ops).getD e.on 0).testBit i = true) := by
  rw [CheckFast.beforeF_eq] at h ⊢
  have hb := before_fold ops.toList #[]
  have e : Region.before ops = ops.toList.foldl (fun acc o => acc.push (CheckFast.one (fun i => acc.getD i 0) o)) #[] := by
    unfold Region.before; rw [← Array.foldl_toList]; rfl
  rw [← e] at hb
  have h3 := hb.2.2 j o (by rw [Array.getElem?_toList]; exact ho)
  rw [List.size_toArray, List.length_nil, Nat.zero_add] at h3
  rw [h3] at h
  obtain ⟨x, hx, hbi, h4⟩ := one_bits h
  refine ⟨x, hx, hbi, h4.imp id fun h5 => ?_⟩
  split at h5
  · exact h5
  · simp at h5

theorem before_none {ops : Array Oper} {j i : Nat} (hj : ops.size ≤ j) : ((CheckFast.beforeF ops).getD j 0).testBit i = false := by
  rw [CheckFast.beforeF_eq]
  have hb := before_fold ops.toList #[]
  have e : Region.before ops = ops.toList.foldl (fun acc o => acc.push (CheckFast.one (fun i => acc.getD i 0) o)) #[] := by
    unfold Region.before; rw [← Array.foldl_toList]; rfl
  rw [← e] at hb
  have := hb.1
  simp only [List.size_toArray, List.length_nil, Nat.zero_add, Array.length_toList] at this
  simp [Array.getElem?_eq_none (Nat.le_trans (Nat.le_of_eq this) hj)]

theorem apart_bits (h : Ctx.apartOk ops = true) {i j : Nat} {o p : Oper} (ho : ops[j]? = some o) (hp : ops[i]? = some p) {d : Nat} (hd : p.dst = some d) (hij : i ≠ j) (hn : o.dst = some d ∨ d ∈ Ctx.slots ops o) :
    ((CheckFast.beforeF ops).getD (max i j) 0).testBit (min i j) = true := by
  unfold Ctx.apartOk at h
  simp only [List.all_eq_true] at h
  have h1 := h (o, j) (List.mem_zipIdx_iff_getElem?.2 (by rw [Array.getElem?_toList]; exact ho)) (p, i) (List.mem_zipIdx_iff_getElem?.2 (by rw [Array.getElem?_toList]; exact hp))
  simp only [hd] at h1
  simp only [Bool.or_eq_true, beq_iff_eq, Bool.not_eq_true', Bool.or_eq_false_iff, beq_eq_false_iff_ne, List.contains_eq_mem, decide_eq_false_iff_not] at h1
  rcases h1 with (h1 | ⟨h1, h2⟩) | h1
  · exact absurd h1 hij
  · rcases hn with hn | hn
    · exact absurd hn h1
    · exact absurd hn h2
  · exact h1

theorem plain_edges (h : Ctx.plainEdges ops = true) {j : Nat} {o : Oper} (ho : ops[j]? = some o) {e : Edge} (he : e ∈ o.after) (hb : Region.binds .any e = true) : e.on < j := by
  unfold Ctx.plainEdges at h
  simp only [List.all_eq_true] at h
  have h1 := h (o, j) (List.mem_zipIdx_iff_getElem?.2 (by rw [Array.getElem?_toList]; exact ho))
  simp only [Array.all_eq_true_iff_forall_mem] at h1
  have h2 := h1 e he
  unfold Region.binds at hb
  cases hg : e.ground <;> simp_all

theorem count_lt {l : List Nat} {p q : Nat → Bool} (hpq : ∀ x ∈ l, p x = true → q x = true) {a : Nat} (ha : a ∈ l) (hq : q a = true) (hp : p a = false) : l.countP p < l.countP q := by
  induction l with
  | nil => cases ha
  | cons x l ih =>
    have hle : l.countP p ≤ l.countP q := List.countP_mono_left fun y hy => hpq y (by simp [hy])
    rw [List.countP_cons, List.countP_cons]
    rcases List.mem_cons.1 ha with rfl | ha'
    · rw [hp, hq]; simp; omega
    · have := ih (fun y hy => hpq y (by simp [hy])) ha'
      have h2 := hpq x (by simp)
      cases hx : p x
      · simp only [Bool.false_eq_true, if_false]; split <;> omega
      · rw [h2 hx]; simp; omega

end
end Go.Abs
/- A region in every order that its edges allow. -/
namespace Go.Abs
open Go
variable {C : Ctx} {fid : Nat → Nat} {w w' : World} {G G' : Gh} {H H' : Heap}
variable {vars : List Nat} {N : Nat} {ops : Array Oper} {aops : List AOper} {call : CallT} {S : Nat → St} {fl : Nat → Bool}

/-- What has been done, and what holds then. -/
structure Inv (C : Ctx) (fid : Nat → Nat) (vars : List Nat) (N : Nat) (ops : Array Oper) (S : Nat → St) (fl : Nat → Bool) (G : Gh) (w : World) (a : Act) (n0 : Nat)
    (L : Array Bool) (k : Nat) (G1 : Gh) (a1 : Act) (w1 : World) : Prop where
  size : L.size = ops.size
  closed : ∀ x, L.getD x false = true → ∀ i, ((CheckFast.beforeF ops).getD x 0).testBit i = true → L.getD i false = true
  kle : k ≤ ops.size
  kfl : ∀ i, i < ops.size → fl i = true → (L.getD i false = true ↔ i < k)
  rel : RelH C fid G1 (S k).H w1
  env : ∀ t m, m ≤ ops.size → (∀ (i : Nat) o, ops[i]? = some o → o.dst = some t → (L.getD i false = true ↔ i < m)) → VRel fid G1 w1 (lookS vars (S m) t) (a1.tmps.getD t undef)
  tsz : a1.tmps.size = N
  defers : a1.defers = a.defers
  ext : ∀ m, m ≤ (S ops.size).low → Ext G w G1 w1 m n0

theorem getD_set' {L : Array Bool} {i j : Nat} (hj : j < L.size) : (L.setIfInBounds j true).getD i false = true ↔ i = j ∨ L.getD i false = true := by
  by_cases h : i = j
  · subst h; simp [Array.getD, hj]
  · rw [getD_set_ne false (Ne.symm h)]; simp [h]

theorem inOrder_bits {bef : List Nat} {wr : List Bool} (h : inOrder0 bef aops wr = true) {i j : Nat} {ao : AOper} (hi : wr[i]? = some true) (hj : aops[j]? = some ao) (ht : touches ao.op = true) (hij : i ≠ j) :
    if j < i then (bef.getD i 0).testBit j = true else (bef.getD j 0).testBit i = true := by
  unfold inOrder0 at h
  rw [if_pos (List.any_eq_true.2 ⟨true, List.mem_of_getElem? hi, rfl⟩)] at h
  simp only [List.all_eq_true] at h
  have h1 := h (true, i) (List.mem_zipIdx_iff_getElem?.2 hi)
  simp only [Bool.not_true, Bool.false_or, List.all_eq_true] at h1
  have h2 := h1 (ao, j) (List.mem_zipIdx_iff_getElem?.2 hj)
  simp only [ht, Bool.not_true, Bool.false_or, Bool.or_eq_true, beq_iff_eq, hij, false_or] at h2
  split at h2
  · rename_i hlt; rw [if_pos hlt]; exact h2
  · rename_i hlt; rw [if_neg hlt]; exact h2

theorem ordered_bits {bef : List Nat} {i j : Nat} : orderedB bef i j = true ↔ (if j < i then (bef.getD i 0).testBit j = true else (bef.getD j 0).testBit i = true) := by
  unfold orderedB
  split <;> rfl

theorem writers_bits {bef : List Nat} {wr : List Bool} (h : writersOk bef wr = true) {i j : Nat} (hi : wr[i]? = some true) (hj : wr[j]? = some true) (hij : i ≠ j) : orderedB bef i j = true := by
  unfold writersOk at h
  simp only [List.all_eq_true] at h
  have h1 := h (true, i) (List.mem_zipIdx_iff_getElem?.2 hi)
  simp only [Bool.not_true, Bool.false_or, List.all_eq_true] at h1
  have h2 := h1 (true, j) (List.mem_zipIdx_iff_getElem?.2 hj)
  simpa [hij] using h2

/-- What was asked of an operation that changes nothing. -/
theorem demand_mem {bef : List Nat} {ops : List AOper} {wr : List Bool} {tr : List St} {o : AOper} {j k : Nat} {Sj Sk : St} (ho : ops[j]? = some o) (ht : touches o.op = true) (hw : wr.getD j false = false) (hj : tr[j]? = some Sj) (hk : tr[k]? = some Sk)
    (hkj : k ≠ j) (hkw : k = 0 ∨ wr.getD (k - 1) false = true) (hord : ∀ i, wr[i]? = some true → i ≠ j → orderedB bef i j = true → (i < j ↔ i < k)) : (o, Sj, Sk.H) ∈ demands bef ops wr tr := by
  unfold demands
  simp only [List.mem_flatMap]
  refine ⟨(o, j), List.mem_zipIdx_iff_getElem?.2 ho, ?_⟩
  simp only [ht, Bool.not_true, hw, Bool.or_self, Bool.false_eq_true, if_false, List.mem_flatMap]
  refine ⟨(Sk, k), List.mem_zipIdx_iff_getElem?.2 hk, ?_⟩
  simp only
  rw [if_neg]
  · rw [hj]; simp
  · intro h
    simp only [Bool.or_eq_true, beq_iff_eq, hkj, false_or, Bool.and_eq_true, bne_iff_ne, ne_eq, Bool.not_eq_true'] at h
    rcases h with h | h
    · rcases hkw with h0 | h0
      · exact h.1 h0
      · rw [h0] at h; cases h.2
    rw [List.any_eq_true] at h
    obtain ⟨⟨w, i⟩, hm, h⟩ := h
    simp only [Bool.and_eq_true, bne_iff_ne, ne_eq] at h
    obtain ⟨h1, h2, h3, h4⟩ := h
    have hi := List.mem_zipIdx_iff_getElem?.1 hm
    simp only at hi
    rw [h1] at hi
    have := hord i hi h2 h3
    apply h4
    rw [decide_eq_decide]
    exact this

theorem lastWriter (fl : Nat → Bool) : ∀ (k : Nat), ∃ k', k' ≤ k ∧ (k' = 0 ∨ fl (k' - 1) = true) ∧ ∀ x, k' ≤ x → x < k → fl x = false
  | 0 => ⟨0, Nat.le_refl _, .inl rfl, fun x h1 h2 => by omega⟩
  | k + 1 => by
    cases hf : fl k with
    | true => exact ⟨k + 1, Nat.le_refl _, .inr hf, fun x h1 h2 => by omega⟩
    | false =>
      obtain ⟨k', h1, h2, h3⟩ := lastWriter fl k
      refine ⟨k', by omega, h2, fun x q1 q2 => ?_⟩
      by_cases hx : x = k
      · rw [hx]; exact hf
      · exact h3 x q1 (by omega)

theorem region_any {id : Nat} {st st' : St} {wr : List Bool} {a : Act} {Q : Exit → Act → World → Prop} {ro : Option Nat} (hmix : C.P.follows .mixedOrders = true) (hC : CtxOk C fid) (hcall : CallOk C fid call)
    (hm : mapO (C.oper vars N ops) ops.toList = some aops) (hpl : Ctx.plainEdges ops = true) (hap : Ctx.apartOk ops = true) (hsee : (ops.toList.zip aops).all (fun (o, a) => Ctx.seesOk ops o a) = true)
    (he : execOps call aops { st with tE := [] } [] = some (st', wr)) (hin : (inOrder0 (CheckFast.beforeF ops).toList aops wr || movesOk call (CheckFast.beforeF ops).toList aops wr { st with tE := [] }) = true) (hR : RelSt C fid vars N G st a w)
    (hQ : ∀ G' a' w', RelSt C fid vars N G' st' a' w' → (∀ m, m ≤ st'.low → Ext G w G' w' m st.H.length) → a'.defers = a.defers → Q .normal a' w') :
    (Code.region id ops true).wpIn (FW ro) 0 C.P Q a w := by
  obtain ⟨S, fl, h0, hn, hwr, hs⟩ := execOps_trace _ _ _ _ _ he
  have T : Tr C vars N ops aops call S fl := .of hm hs
  rw [T.len] at hn hwr
  simp only [List.reverse_nil, List.nil_append] at hwr
  have hbl : ∀ i, (CheckFast.beforeF ops).toList.getD i 0 = (CheckFast.beforeF ops).getD i 0 := fun i => by
    rw [List.getD_eq_getElem?_getD, Array.getElem?_toList, Array.getD_eq_getD_getElem?]
  have hmm : ∀ i j, (if j < i then ((CheckFast.beforeF ops).toList.getD i 0).testBit j = true else ((CheckFast.beforeF ops).toList.getD j 0).testBit i = true) → ((CheckFast.beforeF ops).getD (max i j) 0).testBit (min i j) = true := fun i j this => by
    rw [hbl, hbl] at this
    split at this
    · rw [Nat.max_eq_left (by omega), Nat.min_eq_right (by omega)]; exact this
    · rw [Nat.max_eq_right (by omega), Nat.min_eq_left (by omega)]; exact this
  have hmm' : ∀ i j, ((CheckFast.beforeF ops).getD (max i j) 0).testBit (min i j) = true ∨ orderedB (CheckFast.beforeF ops).toList i j = false := fun i j => by
    cases ho : orderedB (CheckFast.beforeF ops).toList i j with
    | false => exact .inr rfl
    | true => exact .inl (hmm i j (ordered_bits.1 ho))
  -- whoever writes stands in order with whoever touches, or with whoever writes
  have hcase : (∀ i, i < ops.size → fl i = true → ∀ (j : Nat) ao, aops[j]? = some ao → touches ao.op = true → i ≠ j → ((CheckFast.beforeF ops).getD (max i j) 0).testBit (min i j) = true) ∨
      ((∀ i, i < ops.size → fl i = true → ∀ j, j < ops.size → fl j = true → i ≠ j → ((CheckFast.beforeF ops).getD (max i j) 0).testBit (min i j) = true) ∧
       ∀ (j : Nat) ao k, aops[j]? = some ao → j < ops.size → k ≤ ops.size → touches ao.op = true → fl j = false → (∀ i, i < ops.size → fl i = true → i ≠ j → ((CheckFast.beforeF ops).getD (max i j) 0).testBit (min i j) = true → (i < j ↔ i < k)) → (S k).H = (S j).H ∨ stable call (ao, S j, (S k).H) = true) := by
    rw [Bool.or_eq_true] at hin
    rcases hin with hin | hin
    · left
      intro i hi hf j ao hj ht hij
      exact hmm i j (inOrder_bits hin (i := i) (by rw [hwr]; simp [hi, hf]) hj ht hij)
    · right
      unfold movesOk at hin
      split at hin
      · rename_i tr htr
        simp only [Bool.and_eq_true] at hin
        rw [← h0] at htr
        have hget := traceOps_get aops S fl tr hs htr
        rw [T.len] at hget
        refine ⟨fun i hi hf j hj hfj hij => hmm i j (ordered_bits.1 (writers_bits hin.1 (i := i) (j := j) (by rw [hwr]; simp [hi, hf]) (by rw [hwr]; simp [hj, hfj]) hij)), fun j ao k hj hjn hk ht hfj hord => ?_⟩
        obtain ⟨k', hk', hk0, hkn⟩ := lastWriter fl k
        have hkH : (S k).H = (S k').H := by
          obtain ⟨d, rfl⟩ := Nat.exists_eq_add_of_le hk'
          exact T.heap hcall.fr (by omega) fun x h1 h2 => hkn x h1 h2
        by_cases hkj : k' = j
        · left; rw [hkH, hkj]
        right
        rw [hkH]
        have hkw : k' = 0 ∨ wr.getD (k' - 1) false = true := by
          rcases Nat.eq_zero_or_pos k' with q | q
          · exact .inl q
          · rcases hk0 with q' | q'
            · omega
            · right
              rw [hwr, List.getD_eq_getElem?_getD, List.getElem?_map, List.getElem?_range (by omega : k' - 1 < ops.size)]
              exact q'
        have hmem := demand_mem (bef := (CheckFast.beforeF ops).toList) (ops := aops) (wr := wr) (tr := tr) (o := ao) (j := j) (k := k') hj ht (by rw [hwr]; simp [hjn, hfj]) (hget j (by omega)) (hget k' (by omega)) hkj hkw (fun i hi hij ho => by
          have hin' : i < ops.size := by
            rcases Nat.lt_or_ge i ops.size with h | h
            · exact h
            · rw [hwr, List.getElem?_eq_none (by simpa using h)] at hi; cases hi
          have hfi : fl i = true := by rw [hwr] at hi; simpa [hin'] using hi
          refine (hord i hin' hfi hij (hmm i j (ordered_bits.1 ho))).trans ⟨fun h => ?_, fun h => by omega⟩
          rcases Nat.lt_or_ge i k' with q | q
          · exact q
          · rw [hkn i q h] at hfi; cases hfi)
        exact List.all_eq_true.1 hin.2 _ hmem
      · cases hin
  have hS0 : st.H = (S 0).H ∧ st.low = (S 0).low := by rw [h0]; exact ⟨rfl, rfl⟩
  have hlow0 : st.low ≤ st.H.length := hR.low
  -- the end
  have hend : ∀ L k G1 a1 w1, Inv C fid vars N ops S fl G w a st.H.length L k G1 a1 w1 → (∀ i, i < ops.size → L.getD i false = true) → Q .normal a1 w1 := by
    intro L k G1 a1 w1 I hall
    have hk : (S ops.size).H = (S k).H := by
      obtain ⟨d, hd⟩ := Nat.exists_eq_add_of_le I.kle
      rw [hd]
      refine T.heap hcall.fr (by omega) fun x h1 h2 => ?_
      cases hf : fl x with
      | false => rfl
      | true => have := (I.kfl x (by omega) hf).1 (hall x (by omega)); omega
    refine hQ G1 a1 w1 ?_ (fun m hm => I.ext m (by rw [hn]; exact hm)) I.defers
    rw [← hn]
    refine ⟨by rw [hk]; exact I.rel, fun t => I.env t ops.size (Nat.le_refl _) fun i o ho _ => ?_, I.tsz, ?_⟩
    · have : i < ops.size := (Array.getElem?_eq_some_iff.1 ho).1
      simp [this, hall i this]
    · exact (T.fr' hcall.fr (Nat.zero_le _) (Nat.le_refl _)).bound (by rw [← hS0.1, ← hS0.2]; exact hlow0)
  have hdone : ∀ L k G1 a1 w1, Inv C fid vars N ops S fl G w a st.H.length L k G1 a1 w1 → Region.ready .any ops L = [] → ∀ i, i < ops.size → L.getD i false = true := by
    intro L k G1 a1 w1 I hr i
    induction i using Nat.strongRecOn with
    | _ i ih =>
      intro hi
      cases hL : L.getD i false with
      | true => rfl
      | false =>
        exfalso
        have : i ∈ Region.ready .any ops L := mem_ready.2 ⟨by
          have : i < L.size := by rw [I.size]; exact hi
          simp only [Array.getD, this, dif_pos] at hL ⊢; exact hL, ops[i], by simp [hi], fun e he hb => by
            have hlt := plain_edges hpl (j := i) (o := ops[i]) (by simp [hi]) he hb
            exact ih e.on hlt (by omega)⟩
        rw [hr] at this; cases this
  -- one operation
  have hone : ∀ (fuel : Nat) (L : Array Bool) (k : Nat) (G1 : Gh) (a1 : Act) (w1 : World) (j : Nat), Inv C fid vars N ops S fl G w a st.H.length L k G1 a1 w1 → j ∈ Region.ready .any ops L →
      (∀ L' k' G' a' w', Inv C fid vars N ops S fl G w a st.H.length L' k' G' a' w' → L' = L.setIfInBounds j true → wpAnyIn (FW ro) 0 C.P .any ops Q fuel L' a' w') →
      wpOpIn (FW ro) 0 C.P ops Q j (wpAnyIn (FW ro) 0 C.P .any ops Q fuel (L.setIfInBounds j true)) a1 w1 := by
    intro fuel L k G1 a1 w1 j I hj hnext
    obtain ⟨hun0, o, ho, hedge⟩ := mem_ready.1 hj
    have hjn : j < ops.size := (Array.getElem?_eq_some_iff.1 ho).1
    have hjL : j < L.size := by rw [I.size]; exact hjn
    have hun : L.getD j false = false := by simp only [Array.getD, hjL, dif_pos] at hun0 ⊢; exact hun0
    obtain ⟨o', ao, ho', hao, hok, hst⟩ := T.get hjn
    rw [ho] at ho'; cases ho'
    have hbj : ∀ i, ((CheckFast.beforeF ops).getD j 0).testBit i = true → L.getD i false = true := fun i hb => by
      obtain ⟨e, he1, he2, he3⟩ := before_bits ho hb
      have hl := hedge e he1 he2
      rcases he3 with rfl | he3
      · exact hl
      · exact I.closed e.on hl i he3
    -- who stands in order with j
    have hord : ∀ i, i ≠ j → ((CheckFast.beforeF ops).getD (max i j) 0).testBit (min i j) = true → (L.getD i false = true ↔ i < j) := by
      intro i hij hb
      rcases Nat.lt_or_ge i j with hlt | hge
      · rw [Nat.max_eq_right (by omega), Nat.min_eq_left (by omega)] at hb
        exact ⟨fun _ => hlt, fun _ => hbj i hb⟩
      · rw [Nat.max_eq_left hge, Nat.min_eq_right hge] at hb
        refine ⟨fun hL => ?_, fun h => by omega⟩
        have := I.closed i hL j hb
        rw [hun] at this; cases this
    have hordw2 : fl j = true → ∀ i, i < ops.size → fl i = true → i ≠ j → (L.getD i false = true ↔ i < j) := fun hfj i hi hf hij => hord i hij (by
      rcases hcase with hc | ⟨hc, -⟩
      · exact hc i hi hf j ao hao (hst.touches hfj) hij
      · exact hc i hi hf j hjn hfj hij)
    have hordw : ∀ t, (o.dst = some t ∨ t ∈ Ctx.slots ops o) → ∀ (i : Nat) p, ops[i]? = some p → p.dst = some t → i ≠ j → (L.getD i false = true ↔ i < j) := fun t ht i p hp hd hij =>
      hord i hij (apart_bits hap ho hp hd hij ht)
    have hsame : (∀ i, i < ops.size → fl i = true → i ≠ j → (L.getD i false = true ↔ i < j)) → (S k).H = (S j).H := by
      intro hordfl
      have hk := I.kle
      rcases Nat.le_total k j with hkj | hjk
      · obtain ⟨d, rfl⟩ := Nat.exists_eq_add_of_le hkj
        refine (T.heap hcall.fr (by omega) fun x h1 h2 => ?_).symm
        cases hf : fl x with
        | false => rfl
        | true =>
          have a1 := (hordfl x (by omega) hf (by omega)).2 (by omega)
          have a2 := (I.kfl x (by omega) hf).1 a1
          omega
      · obtain ⟨d, rfl⟩ := Nat.exists_eq_add_of_le hjk
        refine T.heap hcall.fr (by omega) fun x h1 h2 => ?_
        cases hf : fl x with
        | false => rfl
        | true =>
          have a2 := (I.kfl x (by omega) hf).2 (by omega)
          by_cases hx : x = j
          · subst hx; rw [hun] at a2; cases a2
          · have := (hordfl x (by omega) hf hx).1 a2; omega
    have hheap : touches ao.op = true → (S k).H = (S j).H ∨ (fl j = false ∧ (wantedA (S j).tE (S j).vE ao.guard = some true → ∀ v H1 low1, stepC call (Opd.ev (S j).tE (S j).vE) (S j).H (S j).H.length ao.op = some (v, H1, low1) → ∃ H2 low2, stepC call (Opd.ev (S j).tE (S j).vE) (S k).H (S k).H.length ao.op = some (v, H2, low2) ∧ movedH (S k).H H2 low2 = false)) := by
      intro ht
      rcases hcase with hc | ⟨-, hc⟩
      · exact .inl (hsame fun i hi hf hij => hord i hij (hc i hi hf j ao hao ht hij))
      · cases hfj : fl j with
        | true => exact .inl (hsame (hordw2 hfj))
        | false =>
          rcases hc j ao k hao hjn I.kle ht hfj (fun i hi hf hij hb => by
            rw [← hord i hij hb]; exact I.kfl i hi hf) with hstb | hstb
          · exact .inl hstb
          refine .inr ⟨rfl, fun hw v H1 low1 h1 => ?_⟩
          unfold stable at hstb
          simp only [hw, h1] at hstb
          split at hstb
          · rename_i v' H2 low2 h2
            simp only [Bool.and_eq_true, Bool.not_eq_true'] at hstb
            have := eqV_eq _ _ hstb.1
            subst this
            exact ⟨H2, low2, h2, hstb.2⟩
          · cases hstb
    have hfr := hst.fr hcall.fr
    have hlowj : (S j).low ≤ (S k).H.length := by
      have e1 := (T.fr' hcall.fr (i := 0) (j := j) (Nat.zero_le _) (by omega)).1.low
      have e2 := (T.fr' hcall.fr (i := 0) (j := k) (Nat.zero_le _) I.kle).1.len
      rw [← hS0.2] at e1; rw [← hS0.1] at e2
      omega
    have hseen : ∀ x ∈ ao.op.operands, seenO (fun t => t ∈ Ctx.slots ops o) x := by
      intro x hx
      have h1 : (o, ao) ∈ ops.toList.zip aops := List.mem_iff_getElem?.2 ⟨j, by rw [List.getElem?_zip_eq_some]; exact ⟨by rw [Array.getElem?_toList]; exact ho, hao⟩⟩
      have h2 := List.all_eq_true.1 hsee _ h1
      simp only [Ctx.seesOk, List.all_eq_true] at h2
      have h3 := h2 x hx
      cases x with
      | tmp t => exact List.contains_iff_mem.1 h3
      | var t => exact List.contains_iff_mem.1 h3
      | const v => trivial
      | func i => trivial
    refine op_wp (T := fun t => t ∈ Ctx.slots ops o) hC hcall ho hok hst I.rel hheap hlowj (fun t ht => ?_) hseen (fun q want d hg hd => ?_) I.tsz ?_
    · refine I.env t j (by omega) fun i p hp hd => ?_
      by_cases hij : i = j
      · subst hij; simp [hun]
      · exact hordw t (.inr ht) i p hp hd hij
    · simp only [Ctx.slots, List.mem_append]
      right
      rw [hg]
      simp only []
      rw [hd]; simp
    · intro x w2 G2 p1 p2 p3
      have hx0 := p2 0 (Nat.zero_le _)
      have hL' : ∀ i, (L.setIfInBounds j true).getD i false = true ↔ i = j ∨ L.getD i false = true := fun i => getD_set' hjL
      refine hnext _ (if fl j then j + 1 else k) G2 _ w2 ⟨by simp [I.size], fun x hx i hb => ?_, ?_, fun i hi hf => ?_, ?_, fun t m hm hcond => ?_, by rw [put_size]; exact I.tsz, by rw [put_defers]; exact I.defers, fun m hm => ?_⟩ rfl
      · rw [hL'] at hx ⊢
        rcases hx with rfl | hx
        · exact .inr (hbj i hb)
        · exact .inr (I.closed x hx i hb)
      · split
        · omega
        · exact I.kle
      · rw [hL']
        by_cases hij : i = j
        · subst hij; simp [hf]
        · cases hfj : fl j with
          | true =>
            have := hordw2 hfj i hi hf hij
            simp only [hij, false_or, if_true]
            rw [this]; omega
          | false => simp only [hij, false_or, Bool.false_eq_true, if_false]; exact I.kfl i hi hf
      · cases hfj : fl j with
        | true => rw [hfj] at p1; exact p1
        | false => rw [hfj] at p1; exact p1
      · refine env_put (fun d hd => by rw [I.tsz]; exact hok.lt d hd) (fun h => ?_) (fun h => ?_)
        · have hjm : j < m := (hcond j o ho h).1 ((hL' j).2 (.inl rfl))
          have e : lookS vars (S m) t = lookS vars (S (j + 1)) t := by
            obtain ⟨d, rfl⟩ := Nat.exists_eq_add_of_le (show j + 1 ≤ m from hjm)
            refine T.slot (by omega) fun x p h1 h2 hp hd => ?_
            have hxj : x ≠ j := by omega
            have a1 := (hL' x).1 ((hcond x p hp hd).2 h2)
            have a2 := (hordw t (.inl h) x p hp hd hxj).1 (a1.resolve_left hxj)
            omega
          rw [e]; exact p3 t h
        · refine (I.env t m hm fun i p hp hd => ?_).ext I.rel hx0
          have hij : i ≠ j := fun e => by subst e; rw [ho] at hp; cases hp; exact h hd
          rw [← hcond i p hp hd, hL']
          simp [hij]
      · have e1 := (T.fr' hcall.fr (i := j + 1) (j := ops.size) hjn (Nat.le_refl _)).1.low
        have e2 := (T.fr' hcall.fr (i := 0) (j := k) (Nat.zero_le _) I.kle).1.len
        rw [← hS0.1] at e2
        exact (I.ext m hm).trans ((p2 m (by omega)).le (Nat.le_refl _) e2)
  have key : ∀ (fuel : Nat) (L : Array Bool) (k : Nat) (G1 : Gh) (a1 : Act) (w1 : World), Inv C fid vars N ops S fl G w a st.H.length L k G1 a1 w1 → (List.range ops.size).countP (fun i => !L.getD i false) ≤ fuel →
      wpAnyIn (FW ro) 0 C.P .any ops Q fuel L a1 w1 := by
    intro fuel
    induction fuel with
    | zero =>
      intro L k G1 a1 w1 I hc
      have hall : ∀ i, i < ops.size → L.getD i false = true := fun i hi => by
        have h1 := List.countP_eq_zero.1 (Nat.le_zero.1 hc) i (by simpa using hi)
        simpa using h1
      refine ⟨?_, hend _ _ _ _ _ I hall⟩
      cases hr : Region.ready .any ops L with
      | nil => rfl
      | cons i r =>
        obtain ⟨h1, o, ho, -⟩ := mem_ready.1 (show i ∈ Region.ready .any ops L by rw [hr]; simp)
        have hi : i < ops.size := (Array.getElem?_eq_some_iff.1 ho).1
        have h2 := hall i hi
        have : i < L.size := by rw [I.size]; exact hi
        simp only [Array.getD, this, dif_pos] at h1 h2
        rw [h1] at h2; cases h2
    | succ fuel ih =>
      intro L k G1 a1 w1 I hc
      refine ⟨fun hr => hend _ _ _ _ _ I (hdone _ _ _ _ _ I hr), fun j hj => hone fuel L k G1 a1 w1 j I hj fun L' k' G' a' w' I' e => ih L' k' G' a' w' I' ?_⟩
      subst e
      obtain ⟨h1, o, ho, -⟩ := mem_ready.1 hj
      have hjn : j < ops.size := (Array.getElem?_eq_some_iff.1 ho).1
      have hjL : j < L.size := by rw [I.size]; exact hjn
      have hlt : (List.range ops.size).countP (fun i => !(L.setIfInBounds j true).getD i false) < (List.range ops.size).countP (fun i => !L.getD i false) := by
        refine count_lt (a := j) (fun x _ hx => ?_) (by simpa using hjn) ?_ ?_
        · cases hv : L.getD x false with
          | false => rfl
          | true =>
            have := (getD_set' (i := x) hjL).2 (.inr hv)
            rw [this] at hx; cases hx
        · simp only [Array.getD, hjL, dif_pos] at h1 ⊢; rw [h1]; rfl
        · have := (getD_set' (i := j) hjL).2 (.inl rfl)
          rw [this]; rfl
      omega
  refine wpIn_region_any hmix ?_
  have hw : ({ w with drawn := w.drawn + 1 } : World).heap = w.heap := rfl
  have hR0 := (hR.clear).sameHeap hw
  rw [← h0] at hR0
  have hf0 : ∀ i, (Array.replicate ops.size false).getD i false = false := fun i => by
    by_cases h : i < ops.size
    · simp [h]
    · simp [h]
  refine key ops.size (Array.replicate ops.size false) 0 G a { w with drawn := w.drawn + 1 } ⟨by simp, fun x hx => absurd hx (by rw [hf0]; simp), Nat.zero_le _, fun i hi hf => by rw [hf0]; simp, hR0.rel, fun t m hm hcond => ?_, hR0.size, rfl, fun m _ => Ext.sameHeap hw rfl rfl m _⟩ ?_
  · have e : lookS vars (S m) t = lookS vars (S 0) t := by
      have := T.slot (t := t) (i := 0) (k := m) (by omega) fun x p h1 h2 hp hd => by
        have := (hcond x p hp hd).2 (by omega)
        rw [hf0] at this; cases this
      rw [Nat.zero_add] at this; exact this
    rw [e]; exact hR0.env t
  · refine Nat.le_trans List.countP_le_length (by simp)

end Go.Abs
/- A region whose only look at the heap is to make new rows: in whatever order they are made, they are the same. -/
namespace Go.Abs
open Go
variable {C : Ctx} {fid : Nat → Nat} {w w' : World} {G G' : Gh} {H H' : Heap}

/-- A new block for an object that has its number already. -/
theorem RelH.place (hR : RelH C fid G H w) {l : Nat} (hn : G.β l = Option.none) {o : AObj} (hl : H[l]? = some o) (ob : Obj) (tag csz : Nat)
    (ho : ORel C fid ⟨upd G.β l ⟨w.heap.size, tag, csz, false⟩, G.I⟩ (w.alloc ob) ⟨w.heap.size, tag, csz, false⟩ o) :
    RelH C fid ⟨upd G.β l ⟨w.heap.size, tag, csz, false⟩, G.I⟩ H (w.alloc ob) := by
  have hle := homes_upd_new hn ⟨w.heap.size, tag, csz, false⟩
  refine ⟨fun x h hb => ?_, fun x x' h h' e e' q => ?_, fun x h hb => ?_, fun b hb => ?_, fun x h hb hf => ?_, fun b o hg => ⟨(hR.glob b o hg).1, by rw [alloc_old (hR.imm b (hR.glob b o hg).1).1]; exact (hR.glob b o hg).2⟩⟩
  · by_cases hx : x = l
    · subst hx
      simp only [upd_same] at hb; cases hb
      exact ⟨o, hl, ho⟩
    · simp only [upd_other hx] at hb
      obtain ⟨o', e', hr⟩ := hR.obj x h hb
      exact ⟨o', e', hr.mono (G' := ⟨upd G.β l _, G.I⟩) hle (fun b hb => ⟨hb, alloc_old (hR.imm b hb).1⟩) (alloc_old (hR.blk x h hb))⟩
  · by_cases hx : x = l <;> by_cases hx' : x' = l
    · rw [hx, hx']
    · subst hx; simp only [upd_same] at e; cases e
      simp only [upd_other hx'] at e'
      have := hR.blk x' h' e'; simp only at q; omega
    · subst hx'; simp only [upd_same] at e'; cases e'
      simp only [upd_other hx] at e
      have := hR.blk x h e; simp only at q; omega
    · simp only [upd_other hx] at e; simp only [upd_other hx'] at e'
      exact hR.inj x x' h h' e e' q
  · rw [World.size_alloc]
    by_cases hx : x = l
    · subst hx; simp only [upd_same] at hb; cases hb; simp
    · simp only [upd_other hx] at hb; have := hR.blk x h hb; omega
  · have hi := hR.imm b hb
    refine ⟨by rw [World.size_alloc]; omega, fun x h e q => ?_⟩
    by_cases hx : x = l
    · subst hx; simp only [upd_same] at e; cases e; simp only at q; omega
    · simp only [upd_other hx] at e; exact hi.2 x h e q
  · by_cases hx : x = l
    · subst hx; simp only [upd_same] at hb; cases hb; cases hf
    · simp only [upd_other hx] at hb; exact hR.fzI x h hb hf

theorem Ext.place {l : Nat} (hn : G.β l = Option.none) {l' : Nat} (ob : Obj) (tag csz m : Nat) (hl : l' ≤ l) : Ext G w ⟨upd G.β l ⟨w.heap.size, tag, csz, false⟩, G.I⟩ (w.alloc ob) m l' where
  size := by simp
  os := rfl
  output := rfl
  keep b hb _ := alloc_old hb
  homes := homes_upd_new hn _
  newH x h hb := by
    by_cases hx : x = l
    · subst hx; simp only [upd_same] at hb; cases hb; exact .inr ⟨hl, Nat.le_refl _⟩
    · simp only [upd_other hx] at hb; exact .inl ⟨h, hb, .inl rfl⟩
  imm _ h := h
  newI _ h := .inl h

theorem RelH.longer (hR : RelH C fid G H w) (h : ∀ (l : Nat) (o : AObj), H[l]? = some o → H'[l]? = some o) : RelH C fid G H' w :=
  ⟨fun l x e => by
    obtain ⟨o, ho, hr⟩ := hR.obj l x e
    exact ⟨o, h l o ho, hr⟩, hR.inj, hR.blk, hR.imm, hR.fzI, hR.glob⟩

theorem op_mk {vars : List Nat} {pos : String} {op : Op} {es : Nat} {z : List V} {bytes : Nat} {al ac : Opd} (hc : C.op vars pos op = .mkSlice es z bytes al ac) : ∃ t l c, op = .makeSlice t l c ∧ C.op0 vars pos op = some (.mkSlice es z bytes al ac) := by
  have hop0 : C.op0 vars pos op = some (.mkSlice es z bytes al ac) := by
    unfold Ctx.op at hc
    cases h : C.op0 vars pos op with
    | none => rw [h] at hc; cases hc
    | some a => rw [h] at hc; simp only [Option.getD_some] at hc; rw [hc]
  cases ho : op with
  | makeSlice t l c => rw [ho] at hop0; exact ⟨t, l, c, rfl, hop0⟩
  | call c =>
    exfalso
    rw [ho] at hop0
    obtain ⟨callee, args, ats⟩ := c
    cases callee with
    | value f =>
      simp only [Ctx.op0] at hop0
      split at hop0 <;> simp at hop0
    | builtin b =>
      simp only [Ctx.op0] at hop0
      unfold Ctx.builtin at hop0
      repeat' split at hop0
      all_goals first
        | (cases hop0; done)
        | (simp only [Option.some.injEq, reduceCtorEq] at hop0; done)
        | (obtain ⟨_, _, h⟩ := Option.map_eq_some_iff.1 hop0; cases h; done)
    | invoke r n => simp [Ctx.op0] at hop0
  | binOp a b c d e =>
    exfalso
    rw [ho] at hop0
    simp only [Ctx.op0, Ctx.nilKind] at hop0
    repeat' split at hop0
    all_goals first
      | (cases hop0; done)
      | (obtain ⟨_, _, h⟩ := Option.map_eq_some_iff.1 hop0; cases h; done)
  | makeFunc g a b =>
    exfalso
    rw [ho] at hop0
    cases g with
    | func f =>
      simp only [Ctx.op0] at hop0
      split at hop0 <;> simp at hop0
    | _ => simp [Ctx.op0] at hop0
  | makeMap t r =>
    exfalso
    rw [ho] at hop0
    cases r <;> simp [Ctx.op0] at hop0
  | _ =>
    exfalso
    rw [ho] at hop0
    simp only [Ctx.op0] at hop0
    repeat' split at hop0
    all_goals first
      | (cases hop0; done)
      | (obtain ⟨_, _, h⟩ := Option.map_eq_some_iff.1 hop0; cases h; done)

/-- make, in the machine. -/
theorem run_mk {vars : List Nat} {ev : Opd → V} {ρ : Operand → Value} {o : Oper} {pos : String} {es : Nat} {z : List V} {bytes : Nat} {al ac : Opd} (hρ : OpdRel C fid vars G w ev ρ) (hop : C.op vars pos o.op = .mkSlice es z bytes al ac)
    {n m : Int} {k k' : IntKind} (e1 : ev al = .int k n) (e2 : ev ac = .int k' m) (hb : n = m ∧ 0 ≤ n ∧ n * (bytes + 1) ≤ 2 ^ 40) :
    0 < es ∧ ∃ e cells, (execOp ρ o).run C.P w = .ok (.value (.slice (some ⟨w.heap.size, 0, none⟩) n.toNat n.toNat)) (w.alloc (.cells cells e)) ∧ cells.size = n.toNat * es ∧
      (∀ d ∈ List.replicate n.toNat (zeroElem z), (cellsV d).length = es) ∧ ∀ G' w', VRels fid G' w' ((List.replicate n.toNat (zeroElem z)).flatMap cellsV) cells.toList := by
  obtain ⟨t, l, c, ho, hc⟩ := op_mk hop
  rw [ho] at hc
  simp only [Ctx.op0] at hc
  split at hc
  · rename_i e hd
    split at hc
    · rename_i i z' al' ac' hi hz h1 h2
      split at hc
      · cases hc
      · rename_i hcond
        simp only [not_or, ne_eq, Classical.not_not] at hcond
        simp only [Option.some.injEq, AOp.mkSlice.injEq] at hc
        obtain ⟨rfl, rfl, rfl, rfl, rfl⟩ := hc
        obtain ⟨zv, hzr, hzrel, hok, -⟩ := zeroCells_run (fid := fid) hz
        have hzsz : zv.cells.size = i.size := by rw [← Array.length_toList, (hzrel G w).length, hcond.2]
        have hl := hρ l _ h1
        have hcc := hρ c _ h2
        obtain ⟨rfl, hn0, hbound⟩ := hb
        rw [e1] at hl; rw [e2] at hcc
        obtain ⟨j, rfl⟩ := Int.eq_ofNat_of_zero_le hn0
        have hb1 : j ≤ 1099511627776 := by
          have : (j : Int) * 1 ≤ (j : Int) * ((i.bytes : Int) + 1) := Int.mul_le_mul_of_nonneg_left (by omega) hn0
          omega
        have hb2 : (i.bytes : Int) * (j : Int) ≤ 1099511627776 := by
          have : (j : Int) * ((i.bytes : Int) + 1) = (i.bytes : Int) * (j : Int) + j := by rw [Int.mul_add, Int.mul_comm]; omega
          omega
        have hw := wrap64_small hn0 (by omega : (j : Int) ≤ 1099511627776)
        have hpos : 0 < i.size := Nat.pos_of_ne_zero hcond.1
        have hrun : ∃ cells, (execOp ρ o).run C.P w = .ok (.value (.slice (some ⟨w.heap.size, 0, none⟩) j j)) (w.alloc (.cells cells e)) ∧ cells.toList = (List.range (j * i.size)).map (fun q => zv.cells[q % zv.cells.size]!) := by
          refine ⟨(Array.range (j * i.size)).map (fun q => (if j * i.size = 0 then #[] else zv.cells : Array Value)[q % (if j * i.size = 0 then #[] else zv.cells : Array Value).size]!), ?_, ?_⟩
          · unfold execOp; rw [ho]
            have ht1 : ¬ ((decide ((j : Int) < 0) || decide ((i.bytes : Int) * (j : Int) > 2 ^ 48)) = true) := by simp; omega
            have ht2 : ¬ ((decide ((j : Int) < 0) || decide ((i.bytes : Int) * (j : Int) > 2 ^ 48) || decide ((j : Int) < 0) || decide ((j : Int) > (j : Int))) = true) := by simp; omega
            simp only [hl.intInv, hcc.intInv, Instr.makeSlice, asInt, asIntOf, Sem.run_bind, Sem.run_pure, Result.andThen_ok, run_underlying hd, run_typeInfo (P := C.P) w hi, hw]
            rw [if_neg (by simpa using ht2)]
            simp only [Sem.run_bind, run_askRoom, Result.andThen_ok, sizeOf, run_typeInfo (P := C.P) w hi, Sem.run_pure, Int.toNat_natCast]
            by_cases h0 : j * i.size = 0
            · simp only [h0, if_true, Sem.run_bind, Sem.run_pure, Result.andThen_ok, newRow, run_newObj, World.alloc_eq]
            · simp only [h0, if_false, Sem.run_bind, Sem.run_pure, Result.andThen_ok, hzr, newRow, run_newObj, World.alloc_eq]
          · by_cases h0 : j * i.size = 0
            · simp [h0]
            · simp [h0]
        obtain ⟨cells, hrun, hcl⟩ := hrun
        have hu := replicate_u hok (n := j) hcond.2
        rw [hzsz] at hcl
        have hrep : ∀ G' w', VRels fid G' w' ((List.replicate j (zeroElem z')).flatMap cellsV) cells.toList := fun G' w' => by
          have := replicate_rel (hzrel G' w') hok (by omega) j
          rw [hzsz, ← hcl] at this
          exact this
        refine ⟨hpos, e, cells, hrun, ?_, hu, hrep⟩
        rw [← Array.length_toList, (hrep G w).length, flat_length hu, List.length_replicate]; rfl
    · cases hc
  · cases hc

section
variable {vars : List Nat} {N : Nat} {ops : Array Oper} {aops : List AOper} {call : CallT} {S : Nat → St} {fl : Nat → Bool}

theorem mk_step {ev : Opd → V} {low low1 : Nat} {es : Nat} {z : List V} {bytes : Nat} {al ac : Opd} {v : V} {H1 : Heap} (h : stepC call ev H low (.mkSlice es z bytes al ac) = some (v, H1, low1)) :
    ∃ k k' n m, ev al = .int k n ∧ ev ac = .int k' m ∧ (n = m ∧ 0 ≤ n ∧ n * (bytes + 1) ≤ 2 ^ 40) ∧
      ((n = 0 ∧ v = .emp ∧ H1 = H ∧ low1 = low) ∨ (n ≠ 0 ∧ v = .sref H.length es 0 n.toNat n.toNat ∧ H1 = H ++ [.row es (List.replicate n.toNat (zeroElem z)) false] ∧ low1 = low)) := by
  have h' : step ev H low (.mkSlice es z bytes al ac) = some (v, H1, low1) := h
  simp only [step] at h'
  split at h'
  · rename_i k n k' m e1 e2
    split at h'
    · rename_i hb
      refine ⟨k, k', n, m, e1, e2, hb, ?_⟩
      split at h'
      · rename_i h0
        cases h'
        exact .inl ⟨h0, rfl, rfl, rfl⟩
      · rename_i h0
        cases h'
        exact .inr ⟨h0, rfl, rfl, rfl⟩
    · cases h'
  · cases h'

theorem allocs_get (h : allocsOk aops = true) {i : Nat} {ao : AOper} (hi : aops[i]? = some ao) (ht : touches ao.op = true) : ao.guard = none ∧ ∃ es z bytes al ac, ao.op = .mkSlice es z bytes al ac := by
  unfold allocsOk at h
  have h1 := List.all_eq_true.1 h ao (List.mem_of_getElem? hi)
  rw [ht] at h1
  simp only [Bool.not_true, Bool.false_or] at h1
  split at h1
  · rename_i e1 e2; exact ⟨e2, _, _, _, _, _, e1⟩
  · cases h1

/-- What one operation does to the heap. -/
theorem allocs_step (T : Tr C vars N ops aops call S fl) (hc : CallFr call) (hal : allocsOk aops = true) {i : Nat} (hi : i < ops.size) :
    (fl i = false ∧ (S (i + 1)).H = (S i).H) ∨ (fl i = true ∧ ∃ o, (S (i + 1)).H = (S i).H ++ [o]) := by
  obtain ⟨o, ao, -, hao, -, hst⟩ := T.get hi
  cases hf : fl i with
  | false => exact .inl ⟨rfl, hst.still hc hf⟩
  | true =>
    right
    refine ⟨rfl, ?_⟩
    obtain ⟨-, es, z, bytes, al, ac, hop⟩ := allocs_get hal hao (hst.touches hf)
    rcases hst with ⟨-, v, H1, low1, h1, e, h2⟩ | ⟨-, -, h2⟩
    · rw [hop] at h1
      obtain ⟨k, k', n, m, -, -, -, hr⟩ := mk_step h1
      have hH : (S (i + 1)).H = H1 := by rw [e, (put_H _ _ _).1]
      rcases hr with ⟨-, -, rfl, rfl⟩ | ⟨-, -, rfl, -⟩
      · rw [hf] at h2
        simp [movedH] at h2
      · exact ⟨_, hH⟩
    · rw [h2] at hf; cases hf

theorem allocs_prefix (T : Tr C vars N ops aops call S fl) (hc : CallFr call) (hal : allocsOk aops = true) {i : Nat} : ∀ {k : Nat}, i + k ≤ ops.size → ∀ (l : Nat) (o : AObj), (S i).H[l]? = some o → (S (i + k)).H[l]? = some o
  | 0, _, l, o, h => h
  | k + 1, hk, l, o, h => by
    have ih := allocs_prefix T hc hal (k := k) (by omega) l o h
    rcases allocs_step T hc hal (i := i + k) (by omega) with ⟨-, e⟩ | ⟨-, o', e⟩
    · rw [show i + (k + 1) = i + k + 1 from rfl, e]; exact ih
    · rw [show i + (k + 1) = i + k + 1 from rfl, e, List.getElem?_append_left ?_]
      · exact ih
      · rcases Nat.lt_or_ge l (S (i + k)).H.length with q | q
        · exact q
        · rw [List.getElem?_eq_none q] at ih; cases ih

theorem allocs_lt (T : Tr C vars N ops aops call S fl) (hc : CallFr call) (hal : allocsOk aops = true) {i j : Nat} (hij : i < j) (hj : j < ops.size) (hf : fl i = true) : (S i).H.length < (S j).H.length := by
  have h1 := (T.fr' hc (i := i + 1) (j := j) hij (by omega)).1.len
  rcases allocs_step T hc hal (i := i) (by omega) with ⟨e, -⟩ | ⟨-, o, e⟩
  · rw [e] at hf; cases hf
  · rw [e] at h1; simp at h1; omega

structure InvA (C : Ctx) (fid : Nat → Nat) (vars : List Nat) (N : Nat) (ops : Array Oper) (S : Nat → St) (fl : Nat → Bool) (G : Gh) (w : World) (a : Act) (n0 : Nat)
    (L : Array Bool) (G1 : Gh) (a1 : Act) (w1 : World) : Prop where
  size : L.size = ops.size
  closed : ∀ x, L.getD x false = true → ∀ i, ((CheckFast.beforeF ops).getD x 0).testBit i = true → L.getD i false = true
  rel : RelH C fid G1 (S ops.size).H w1
  free : ∀ i, i < ops.size → fl i = true → L.getD i false = false → G1.β (S i).H.length = Option.none
  env : ∀ t m, m ≤ ops.size → (∀ (i : Nat) o, ops[i]? = some o → o.dst = some t → (L.getD i false = true ↔ i < m)) → VRel fid G1 w1 (lookS vars (S m) t) (a1.tmps.getD t undef)
  tsz : a1.tmps.size = N
  defers : a1.defers = a.defers
  ext : ∀ m, m ≤ (S ops.size).low → Ext G w G1 w1 m n0

theorem manual_mk {j : Nat} {o : Oper} {a : Act} {K : Act → World → Prop} {Q : Exit → Act → World → Prop} {ro : Option Nat} {w1 : World} (ho : ops[j]? = some o) (hg : o.guard = none) (hnd : ∀ c, o.op ≠ .defer c) {x : Value}
    (hrun : (execOp a.eval o).run C.P w = .ok (.value x) w1) (hK : K (a.put o.dst x) w1) : wpOpIn (FW ro) 0 C.P ops Q j K a w := by
  unfold wpOpIn
  rw [ho]
  have hw : Region.wanted o (yielded ops a.tmps) = true := by unfold Region.wanted; rw [hg]
  simp only [hw, if_true]
  refine ⟨fun _ _ => trivial, ?_⟩
  rw [Oper.semAt_eq _ _ _ hnd, hrun]
  exact hK

theorem region_allocs {id : Nat} {st st' : St} {wr : List Bool} {a : Act} {Q : Exit → Act → World → Prop} {ro : Option Nat} (hmix : C.P.follows .mixedOrders = true) (hC : CtxOk C fid) (hcall : CallOk C fid call)
    (hm : mapO (C.oper vars N ops) ops.toList = some aops) (hpl : Ctx.plainEdges ops = true) (hap : Ctx.apartOk ops = true) (hsee : (ops.toList.zip aops).all (fun (o, a) => Ctx.seesOk ops o a) = true)
    (he : execOps call aops { st with tE := [] } [] = some (st', wr)) (hal : allocsOk aops = true) (hR : RelSt C fid vars N G st a w)
    (hQ : ∀ G' a' w', RelSt C fid vars N G' st' a' w' → (∀ m, m ≤ st'.low → Ext G w G' w' m st.H.length) → a'.defers = a.defers → Q .normal a' w') :
    (Code.region id ops true).wpIn (FW ro) 0 C.P Q a w := by
  obtain ⟨S, fl, h0, hn, -, hs⟩ := execOps_trace _ _ _ _ _ he
  have T : Tr C vars N ops aops call S fl := .of hm hs
  rw [T.len] at hn
  have hS0 : st.H = (S 0).H ∧ st.low = (S 0).low := by rw [h0]; exact ⟨rfl, rfl⟩
  have hlow0 : st.low ≤ st.H.length := hR.low
  have hlen0 : ∀ k, k ≤ ops.size → st.H.length ≤ (S k).H.length := fun k hk => by
    have := (T.fr' hcall.fr (i := 0) (j := k) (Nat.zero_le _) hk).1.len
    rw [← hS0.1] at this; exact this
  -- the end
  have hend : ∀ L G1 a1 w1, InvA C fid vars N ops S fl G w a st.H.length L G1 a1 w1 → (∀ i, i < ops.size → L.getD i false = true) → Q .normal a1 w1 := by
    intro L G1 a1 w1 I hall
    refine hQ G1 a1 w1 ?_ (fun m hm => I.ext m (by rw [hn]; exact hm)) I.defers
    rw [← hn]
    refine ⟨I.rel, fun t => I.env t ops.size (Nat.le_refl _) fun i o ho _ => ?_, I.tsz, ?_⟩
    · have : i < ops.size := (Array.getElem?_eq_some_iff.1 ho).1
      simp [this, hall i this]
    · exact (T.fr' hcall.fr (Nat.zero_le _) (Nat.le_refl _)).bound (by rw [← hS0.1, ← hS0.2]; exact hlow0)
  have hdone : ∀ L G1 a1 w1, InvA C fid vars N ops S fl G w a st.H.length L G1 a1 w1 → Region.ready .any ops L = [] → ∀ i, i < ops.size → L.getD i false = true := by
    intro L G1 a1 w1 I hr i
    induction i using Nat.strongRecOn with
    | _ i ih =>
      intro hi
      cases hL : L.getD i false with
      | true => rfl
      | false =>
        exfalso
        have : i ∈ Region.ready .any ops L := mem_ready.2 ⟨by
          have : i < L.size := by rw [I.size]; exact hi
          simp only [Array.getD, this, dif_pos] at hL ⊢; exact hL, ops[i], by simp [hi], fun e he hb => by
            have hlt := plain_edges hpl (j := i) (o := ops[i]) (by simp [hi]) he hb
            exact ih e.on hlt (by omega)⟩
        rw [hr] at this; cases this
  -- one operation
  have hone : ∀ (fuel : Nat) (L : Array Bool) (G1 : Gh) (a1 : Act) (w1 : World) (j : Nat), InvA C fid vars N ops S fl G w a st.H.length L G1 a1 w1 → j ∈ Region.ready .any ops L →
      (∀ L' G' a' w', InvA C fid vars N ops S fl G w a st.H.length L' G' a' w' → L' = L.setIfInBounds j true → wpAnyIn (FW ro) 0 C.P .any ops Q fuel L' a' w') →
      wpOpIn (FW ro) 0 C.P ops Q j (wpAnyIn (FW ro) 0 C.P .any ops Q fuel (L.setIfInBounds j true)) a1 w1 := by
    intro fuel L G1 a1 w1 j I hj hnext
    obtain ⟨hun0, o, ho, hedge⟩ := mem_ready.1 hj
    have hjn : j < ops.size := (Array.getElem?_eq_some_iff.1 ho).1
    have hjL : j < L.size := by rw [I.size]; exact hjn
    have hun : L.getD j false = false := by simp only [Array.getD, hjL, dif_pos] at hun0 ⊢; exact hun0
    obtain ⟨o', ao, ho', hao, hok, hst⟩ := T.get hjn
    rw [ho] at ho'; cases ho'
    have hbj : ∀ i, ((CheckFast.beforeF ops).getD j 0).testBit i = true → L.getD i false = true := fun i hb => by
      obtain ⟨e, he1, he2, he3⟩ := before_bits ho hb
      have hl := hedge e he1 he2
      rcases he3 with rfl | he3
      · exact hl
      · exact I.closed e.on hl i he3
    have hord : ∀ i, i ≠ j → ((CheckFast.beforeF ops).getD (max i j) 0).testBit (min i j) = true → (L.getD i false = true ↔ i < j) := by
      intro i hij hb
      rcases Nat.lt_or_ge i j with hlt | hge
      · rw [Nat.max_eq_right (by omega), Nat.min_eq_left (by omega)] at hb
        exact ⟨fun _ => hlt, fun _ => hbj i hb⟩
      · rw [Nat.max_eq_left hge, Nat.min_eq_right hge] at hb
        refine ⟨fun hL => ?_, fun h => by omega⟩
        have := I.closed i hL j hb
        rw [hun] at this; cases this
    have hordw : ∀ t, (o.dst = some t ∨ t ∈ Ctx.slots ops o) → ∀ (i : Nat) p, ops[i]? = some p → p.dst = some t → i ≠ j → (L.getD i false = true ↔ i < j) := fun t ht i p hp hd hij =>
      hord i hij (apart_bits hap ho hp hd hij ht)
    have hfr := hst.fr hcall.fr
    have hseen : ∀ x ∈ ao.op.operands, seenO (fun t => t ∈ Ctx.slots ops o) x := by
      intro x hx
      have h1 : (o, ao) ∈ ops.toList.zip aops := List.mem_iff_getElem?.2 ⟨j, by rw [List.getElem?_zip_eq_some]; exact ⟨by rw [Array.getElem?_toList]; exact ho, hao⟩⟩
      have h2 := List.all_eq_true.1 hsee _ h1
      simp only [Ctx.seesOk, List.all_eq_true] at h2
      have h3 := h2 x hx
      cases x with
      | tmp t => exact List.contains_iff_mem.1 h3
      | var t => exact List.contains_iff_mem.1 h3
      | const v => trivial
      | func i => trivial
    have hsees : ∀ t, t ∈ Ctx.slots ops o → VRel fid G1 w1 (lookS vars (S j) t) (a1.tmps.getD t undef) := fun t ht => by
      refine I.env t j (by omega) fun i p hp hd => ?_
      by_cases hij : i = j
      · subst hij; simp [hun]
      · exact hordw t (.inr ht) i p hp hd hij
    have hL' : ∀ i, (L.setIfInBounds j true).getD i false = true ↔ i = j ∨ L.getD i false = true := fun i => getD_set' hjL
    -- behind it
    have hgo : ∀ (x : Value) (w2 : World) (G2 : Gh), RelH C fid G2 (S ops.size).H w2 → (∀ m, m ≤ (S (j + 1)).low → Ext G1 w1 G2 w2 m st.H.length) → (∀ t, o.dst = some t → VRel fid G2 w2 (lookS vars (S (j + 1)) t) x) →
        (∀ i, i < ops.size → fl i = true → i ≠ j → L.getD i false = false → G2.β (S i).H.length = Option.none) → wpAnyIn (FW ro) 0 C.P .any ops Q fuel (L.setIfInBounds j true) (a1.put o.dst x) w2 := by
      intro x w2 G2 p1 p2 p3 p4
      have hx0 := p2 0 (Nat.zero_le _)
      refine hnext _ G2 _ w2 ⟨by simp [I.size], fun x hx i hb => ?_, p1, fun i hi hf hi2 => ?_, fun t m hm hcond => ?_, by rw [put_size]; exact I.tsz, by rw [put_defers]; exact I.defers, fun m hm => ?_⟩ rfl
      · rw [hL'] at hx ⊢
        rcases hx with rfl | hx
        · exact .inr (hbj i hb)
        · exact .inr (I.closed x hx i hb)
      · have hne : i ≠ j := fun e => by
          have := (hL' i).2 (.inl e)
          rw [this] at hi2; cases hi2
        refine p4 i hi hf hne ?_
        cases hv : L.getD i false with
        | false => rfl
        | true =>
          have := (hL' i).2 (.inr hv)
          rw [this] at hi2; cases hi2
      · refine env_put (fun d hd => by rw [I.tsz]; exact hok.lt d hd) (fun h => ?_) (fun h => ?_)
        · have hjm : j < m := (hcond j o ho h).1 ((hL' j).2 (.inl rfl))
          have e : lookS vars (S m) t = lookS vars (S (j + 1)) t := by
            obtain ⟨d, rfl⟩ := Nat.exists_eq_add_of_le (show j + 1 ≤ m from hjm)
            refine T.slot (by omega) fun x p h1 h2 hp hd => ?_
            have hxj : x ≠ j := by omega
            have a1 := (hL' x).1 ((hcond x p hp hd).2 h2)
            have a2 := (hordw t (.inl h) x p hp hd hxj).1 (a1.resolve_left hxj)
            omega
          rw [e]; exact p3 t h
        · refine (I.env t m hm fun i p hp hd => ?_).ext I.rel hx0
          have hij : i ≠ j := fun e => by subst e; rw [ho] at hp; cases hp; exact h hd
          rw [← hcond i p hp hd, hL']
          simp [hij]
      · have e1 := (T.fr' hcall.fr (i := j + 1) (j := ops.size) hjn (Nat.le_refl _)).1.low
        exact (I.ext m hm).trans (p2 m (by omega))
    by_cases ht : touches ao.op = true
    · -- a new row
      obtain ⟨hgn, es, z, bytes, al, ac, hop⟩ := allocs_get hal hao ht
      rcases hst with ⟨hw, v, H1, low1, h1, hS, hfl⟩ | ⟨hw, -, -⟩
      case inr => rw [hgn] at hw; simp [wantedA] at hw
      have hog : o.guard = none := by
        have := hok.guard
        rw [hgn] at this
        cases hg : o.guard with
        | none => rfl
        | some p =>
          obtain ⟨q, b⟩ := p
          rw [hg] at this
          simp only [Ctx.guard] at this
          split at this <;> simp at this
      have hopC : C.op vars o.pos o.op = .mkSlice es z bytes al ac := by rw [← hok.op]; exact hop
      obtain ⟨t', l', c', hmk, -⟩ := op_mk hopC
      let ev' : Opd → V := fun ax => open Classical in if ax ∈ ao.op.operands then Opd.ev (S j).tE (S j).vE ax else .undef
      have hρ : OpdRel C fid vars G1 w1 ev' a1.eval := fun x ax hx => by
        by_cases hin : ax ∈ ao.op.operands
        · have hT' := hseen ax hin
          simp only [ev', hin, if_true]
          cases x with
          | tmp t =>
            simp only [Ctx.opd, Option.some.injEq] at hx
            have hTt : t ∈ Ctx.slots ops o := by rw [← hx] at hT'; split at hT' <;> exact hT'
            have := hsees t hTt
            have e : ax.ev (S j).tE (S j).vE = lookS vars (S j) t := by rw [← hx]; unfold lookS; split <;> rfl
            rw [e]; exact this
          | const u =>
            simp only [Ctx.opd] at hx
            obtain ⟨cv, hcv, rfl⟩ := Option.map_eq_some_iff.1 hx
            rcases constV_sound (I := G1.I) (w := w1) u hcv with rfl | hp
            · exact .undef _
            · exact .p _ _ hp
          | func f => exact opd_func hC hx
          | global g => simp [Ctx.opd] at hx
        · simp only [ev', hin, if_false]; exact .undef _
      rw [hop] at h1
      obtain ⟨k, k', n, m, e1, e2, hb, hres⟩ := mk_step h1
      have e1' : ev' al = .int k n := by
        have : al ∈ ao.op.operands := by rw [hop]; simp [AOp.operands]
        simp only [ev', this, if_true]; exact e1
      have e2' : ev' ac = .int k' m := by
        have : ac ∈ ao.op.operands := by rw [hop]; simp [AOp.operands]
        simp only [ev', this, if_true]; exact e2
      obtain ⟨hpos, e, cells, hrun, hcsz, hu, hrep⟩ := run_mk (w := w1) hρ hopC e1' e2' hb
      refine manual_mk ho hog (by rw [hmk]; simp) hrun ?_
      have hpH := put_H { S j with H := H1, low := min (S j).low low1 } ao.dst v
      have hput : ∀ t, o.dst = some t → lookS vars (S (j + 1)) t = v := fun t ht => by
        rw [hS]
        rcases hok.dst with ⟨h2, -⟩ | ⟨d, -, h2, h3⟩
        · rw [h2] at ht; cases ht
        · rw [h2] at ht; cases ht
          rw [h3, lookS_put, if_pos rfl]
      rcases hres with ⟨hn0, rfl, rfl, -⟩ | ⟨hn0, rfl, hH1, -⟩
      · subst hn0
        have hk : ∀ b, b < w1.heap.size → (w1.alloc (.cells cells e)).heap[b]? = w1.heap[b]? := fun b hb => alloc_old hb
        refine hgo _ _ G1 (I.rel.restore (by simp) hk) (fun m _ => .restore (by simp) hk rfl rfl m _) (fun t ht => ?_) fun i hi hf _ hL => I.free i hi hf hL
        rw [hput t ht]; exact .p _ _ (.emp _)
      · have hfj : fl j = true := by rw [hfl, hH1]; simp [movedH]
        have hnone := I.free j hjn hfj hun
        have hrow : (S ops.size).H[(S j).H.length]? = some (.row es (List.replicate n.toNat (zeroElem z)) false) := by
          obtain ⟨d, hd⟩ := Nat.exists_eq_add_of_le (show j + 1 ≤ ops.size from hjn)
          rw [hd]
          refine allocs_prefix T hcall.fr hal (by omega) _ _ ?_
          rw [hS, hpH.1, hH1]
          simp
        have hnt : 0 < n.toNat := by omega
        have hplace := I.rel.place hnone hrow (.cells cells e) n.toNat cells.size ⟨by simp, by simpa using hnt, rfl, hpos, hu, cells, e, cells.toList, [], alloc_new _ _, rfl, by simp, hrep _ _⟩
        refine hgo _ _ _ hplace (fun m _ => .place hnone _ _ _ m (hlen0 j (by omega))) (fun t ht => ?_) fun i hi hf hij hL => ?_
        · rw [hput t ht]
          refine .sref _ _ 0 n.toNat n.toNat ⟨w1.heap.size, n.toNat, cells.size, false⟩ _ _ _ (upd_same _ _ _) (Nat.le_refl _) (fun _ => ⟨by simp, rfl, ?_, Nat.le_refl _⟩)
          rw [hcsz, Nat.zero_add]; exact Nat.le_refl _
        · have hne : (S i).H.length ≠ (S j).H.length := by
            rcases Nat.lt_or_ge i j with q | q
            · have := allocs_lt T hcall.fr hal q hjn hf; omega
            · have := allocs_lt T hcall.fr hal (show j < i by omega) hi hfj; omega
          show upd G1.β (S j).H.length _ (S i).H.length = _
          rw [upd_other hne]
          exact I.free i hi hf hL
    · have ht' : touches ao.op = false := by simpa using ht
      have hfj : fl j = false := by
        cases hf : fl j with
        | false => rfl
        | true => have := hst.touches hf; rw [ht'] at this; cases this
      refine op_wp (T := fun t => t ∈ Ctx.slots ops o) (Hc := (S ops.size).H) hC hcall ho hok hst I.rel (fun q => absurd q ht) ?_ hsees hseen (fun q want d hg hd => ?_) I.tsz ?_
      · have e1 := (T.fr' hcall.fr (i := 0) (j := j) (Nat.zero_le _) (by omega)).1.low
        have e2 := hlen0 ops.size (Nat.le_refl _)
        rw [← hS0.2] at e1
        omega
      · simp only [Ctx.slots, List.mem_append]
        right
        rw [hg]
        simp only []
        rw [hd]; simp
      · intro x w2 G2 p1 p2 p3
        rw [hfj] at p1
        refine hgo x w2 G2 p1 (fun m hm => (p2 m hm).le (Nat.le_refl _) (hlen0 ops.size (Nat.le_refl _))) p3 fun i hi hf hij hL => ?_
        have hnone := I.free i hi hf hL
        cases hb : G2.β (S i).H.length with
        | none => rfl
        | some h' =>
          exfalso
          rcases (p2 0 (Nat.zero_le _)).newH _ _ hb with ⟨h, hh, -⟩ | ⟨hge, -⟩
          · rw [hnone] at hh; cases hh
          · obtain ⟨d, hd⟩ := Nat.exists_eq_add_of_le (show i + 1 ≤ ops.size from hi)
            have h2 := (T.fr' hcall.fr (i := i + 1) (j := ops.size) hi (Nat.le_refl _)).1.len
            rcases allocs_step T hcall.fr hal hi with ⟨q, -⟩ | ⟨-, o', q⟩
            · rw [hf] at q; cases q
            · rw [q] at h2; simp at h2; omega
  have key : ∀ (fuel : Nat) (L : Array Bool) (G1 : Gh) (a1 : Act) (w1 : World), InvA C fid vars N ops S fl G w a st.H.length L G1 a1 w1 → (List.range ops.size).countP (fun i => !L.getD i false) ≤ fuel →
      wpAnyIn (FW ro) 0 C.P .any ops Q fuel L a1 w1 := by
    intro fuel
    induction fuel with
    | zero =>
      intro L G1 a1 w1 I hc
      have hall : ∀ i, i < ops.size → L.getD i false = true := fun i hi => by
        have h1 := List.countP_eq_zero.1 (Nat.le_zero.1 hc) i (by simpa using hi)
        simpa using h1
      refine ⟨?_, hend _ _ _ _ I hall⟩
      cases hr : Region.ready .any ops L with
      | nil => rfl
      | cons i r =>
        obtain ⟨h1, o, ho, -⟩ := mem_ready.1 (show i ∈ Region.ready .any ops L by rw [hr]; simp)
        have hi : i < ops.size := (Array.getElem?_eq_some_iff.1 ho).1
        have h2 := hall i hi
        have : i < L.size := by rw [I.size]; exact hi
        simp only [Array.getD, this, dif_pos] at h1 h2
        rw [h1] at h2; cases h2
    | succ fuel ih =>
      intro L G1 a1 w1 I hc
      refine ⟨fun hr => hend _ _ _ _ I (hdone _ _ _ _ I hr), fun j hj => hone fuel L G1 a1 w1 j I hj fun L' G' a' w' I' e => ih L' G' a' w' I' ?_⟩
      subst e
      obtain ⟨h1, o, ho, -⟩ := mem_ready.1 hj
      have hjn : j < ops.size := (Array.getElem?_eq_some_iff.1 ho).1
      have hjL : j < L.size := by rw [I.size]; exact hjn
      have hlt : (List.range ops.size).countP (fun i => !(L.setIfInBounds j true).getD i false) < (List.range ops.size).countP (fun i => !L.getD i false) := by
        refine count_lt (a := j) (fun x _ hx => ?_) (by simpa using hjn) ?_ ?_
        · cases hv : L.getD x false with
          | false => rfl
          | true =>
            have := (getD_set' (i := x) hjL).2 (.inr hv)
            rw [this] at hx; cases hx
        · simp only [Array.getD, hjL, dif_pos] at h1 ⊢; rw [h1]; rfl
        · have := (getD_set' (i := j) hjL).2 (.inl rfl)
          rw [this]; rfl
      omega
  refine wpIn_region_any hmix ?_
  have hw : ({ w with drawn := w.drawn + 1 } : World).heap = w.heap := rfl
  have hR0 := (hR.clear).sameHeap hw
  rw [← h0] at hR0
  have hf0 : ∀ i, (Array.replicate ops.size false).getD i false = false := fun i => by
    by_cases h : i < ops.size
    · simp [h]
    · simp [h]
  refine key ops.size (Array.replicate ops.size false) G a { w with drawn := w.drawn + 1 } ⟨by simp, fun x hx => absurd hx (by rw [hf0]; simp), hR0.rel.longer fun l o hl => ?_, fun i hi hf _ => ?_, fun t m hm hcond => ?_, hR0.size, rfl, fun m _ => Ext.sameHeap hw rfl rfl m _⟩ ?_
  · have := allocs_prefix T hcall.fr hal (i := 0) (k := ops.size) (by omega) l o hl
    rw [Nat.zero_add] at this; exact this
  · exact hR.rel.none (hlen0 i (by omega))
  · have e : lookS vars (S m) t = lookS vars (S 0) t := by
      have := T.slot (t := t) (i := 0) (k := m) (by omega) fun x p h1 h2 hp hd => by
        have := (hcond x p hp hd).2 (by omega)
        rw [hf0] at this; cases this
      rw [Nat.zero_add] at this; exact this
    rw [e]; exact hR0.env t
  · refine Nat.le_trans List.countP_le_length (by simp)

/-- A region in every order. -/
theorem region_every {id : Nat} {st st' : St} {wr : List Bool} {a : Act} {Q : Exit → Act → World → Prop} {ro : Option Nat} (hmix : C.P.follows .mixedOrders = true) (hC : CtxOk C fid) (hcall : CallOk C fid call)
    (hm : mapO (C.oper vars N ops) ops.toList = some aops) (hpl : Ctx.plainEdges ops = true) (hap : Ctx.apartOk ops = true) (hsee : (ops.toList.zip aops).all (fun (o, a) => Ctx.seesOk ops o a) = true)
    (he : execOps call aops { st with tE := [] } [] = some (st', wr)) (hin : (inOrder (CheckFast.beforeF ops).toList aops wr || movesOk call (CheckFast.beforeF ops).toList aops wr { st with tE := [] }) = true) (hR : RelSt C fid vars N G st a w)
    (hQ : ∀ G' a' w', RelSt C fid vars N G' st' a' w' → (∀ m, m ≤ st'.low → Ext G w G' w' m st.H.length) → a'.defers = a.defers → Q .normal a' w') :
    (Code.region id ops true).wpIn (FW ro) 0 C.P Q a w := by
  cases hal : allocsOk aops with
  | true => exact region_allocs hmix hC hcall hm hpl hap hsee he hal hR hQ
  | false =>
    unfold inOrder at hin
    rw [hal, Bool.or_false] at hin
    exact region_any hmix hC hcall hm hpl hap hsee he hin hR hQ
end
end Go.Abs
/- The code of a body: where the executor goes on, the machine goes on alike. -/
namespace Go.Abs
open Go
variable {C : Ctx} {fid : Nat → Nat} {w w' : World} {G G' : Gh} {H H' : Heap}

def toExit : X → Exit
  | .normal => .normal
  | .exit id => .exit id
  | .ret => .ret

/-- The round whose frame it is. -/
def RoRel (G : Gh) : Option Nat → Option Nat → Prop
  | none, none => True
  | some l, some b => ∃ h, G.β l = some h ∧ h.tag = 0 ∧ h.b = b
  | _, _ => False

theorem RoRel.ext {m n : Nat} (h : Ext G w G' w' m n) : ∀ {l b : Option Nat}, RoRel G l b → RoRel G' l b
  | none, none, _ => trivial
  | some l, some b, ⟨h0, e, t, q⟩ => by
    obtain ⟨h', e', -, z, m, -⟩ := h.homes l h0 e
    exact ⟨h', e', z t, by rw [(m ((z t).trans t.symm)).1]; exact q⟩
  | none, some _, k | some _, none, k => k.elim

def markOf (r : Nat) : Deferred := { target := .collected r, args := #[] }

/-- The blocks for the deferred calls of rounds: nobody's, and empty. -/
structure MarkOk (G : Gh) (w : World) (base r : Nat) : Prop where
  base : base ≤ r
  lt : r < w.heap.size
  obj : w.heap[r]? = some (.deferred (some []))
  home : ∀ l h, G.β l = some h → h.b ≠ r
  imm : ¬ G.I r

def MarksOk (G : Gh) (w : World) (base : Nat) (ds : List Deferred) : Prop := ∃ rs : List Nat, ds = rs.map markOf ∧ rs.Nodup ∧ ∀ r ∈ rs, MarkOk G w base r

theorem MarkOk.ext {m n base r : Nat} (h : Ext G w G' w' m n) (k : MarkOk G w base r) : MarkOk G' w' base r where
  base := k.base
  lt := Nat.lt_of_lt_of_le k.lt h.size
  obj := by rw [h.keep r k.lt fun l x e1 e2 => absurd e2 (k.home l x e1)]; exact k.obj
  home l x e q := by
    rcases h.newH' l x e with ⟨x0, e0, eb⟩ | hs
    · exact k.home l x0 e0 (eb.trans q)
    · have := k.lt; omega
  imm hi := by
    rcases h.newI r hi with h1 | h1 | ⟨l, x, e, eb⟩
    · exact k.imm h1
    · have := k.lt; omega
    · exact k.home l x e eb

theorem MarksOk.ext {m n base : Nat} {ds : List Deferred} (h : Ext G w G' w' m n) : MarksOk G w base ds → MarksOk G' w' base ds
  | ⟨rs, e, nd, k⟩ => ⟨rs, e, nd, fun r hr => (k r hr).ext h⟩

theorem opd_rel (hC : CtxOk C fid) {vars : List Nat} {N : Nat} {st : St} {a : Act} (hR : RelSt C fid vars N G st a w) : OpdRel C fid vars G w (Opd.ev st.tE st.vE) a.eval := fun x ax hx => by
  cases x with
  | tmp t =>
    simp only [Ctx.opd, Option.some.injEq] at hx
    have e : ax.ev st.tE st.vE = lookS vars st t := by rw [← hx]; unfold lookS; split <;> rfl
    rw [e]; exact hR.env t
  | const u =>
    simp only [Ctx.opd] at hx
    obtain ⟨cv, hcv, rfl⟩ := Option.map_eq_some_iff.1 hx
    rcases constV_sound (I := G.I) (w := w) u hcv with rfl | hp
    · exact .undef _
    · exact .p _ _ hp
  | func f => exact opd_func hC hx
  | global g => simp [Ctx.opd] at hx

/-- A loop of at most k rounds. -/
theorem wpIn_iter {F : Fence} {n : Nat} {P : Program} {Q : Exit → Act → World → Prop} {c : Code} (I : Nat → Act → World → Prop)
    (round : ∀ k a w, I k a w → ∃ k', k = k' + 1 ∧ c.wpIn F n P (Exit.then (I k') Q) a w) {j : Nat} {a : Act} {w : World} (h₀ : I j a w) : (Code.loop c).wpIn F n P Q a w := by
  intro b k cs hro hb hr
  have key : ∀ j a w, I j a w →
      ∃ e a' w', Q e a' w' ∧ ArrivesIn (Machine.fenced P F) P (lone (b.atR a (.code c :: .inLoop c :: k)) cs w) b k cs e a' w' := by
    intro j
    induction j with
    | zero =>
      intro a w hI
      obtain ⟨k', e, -⟩ := round 0 a w hI
      omega
    | succ j ih =>
      intro a w hI
      obtain ⟨k', e, hr'⟩ := round _ a w hI
      cases e
      obtain ⟨e, a₁, w₁, hq, harr⟩ := hr' b (.inLoop c :: k) cs hro hb hr
      cases e with
      | normal =>
        obtain ⟨e₂, a₂, w₂, hq₂, harr₂⟩ := ih a₁ w₁ hq
        exact ⟨e₂, a₂, w₂, hq₂, .of_steps (StepsIn.trans harr (.one (fenced_calm hb hr rfl) stepR_inLoop)) harr₂⟩
      | exit id => exact ⟨_, a₁, w₁, hq, .pass (x := .inLoop c) rfl (fun _ _ => .inl (by simp)) harr⟩
      | goto l => exact ⟨_, a₁, w₁, hq, .pass (x := .inLoop c) rfl (fun _ _ => .inl (by simp)) harr⟩
      | ret => exact ⟨_, a₁, w₁, hq, .pass (x := .inLoop c) rfl (fun _ _ => .inl (by simp)) harr⟩
      | panic ch => exact ⟨_, a₁, w₁, hq, .pass (x := .inLoop c) rfl (fun _ _ => .inl (by simp)) harr⟩
      | outgrown => exact ⟨_, a₁, w₁, hq, .pass (x := .inLoop c) rfl (fun _ _ => .inl (by simp)) harr⟩
  obtain ⟨e, a', w', hq, harr⟩ := key _ a w h₀
  exact ⟨e, a', w', hq, .of_steps (.one (fenced_calm hb hr rfl) stepR_loop) harr⟩

/-- What holds when a piece of code has come to its end. -/
structure Fin (C : Ctx) (fid : Nat → Nat) (vars : List Nat) (N base : Nat) (st : St) (G : Gh) (w : World) (st' : St) (G' : Gh) (a' : Act) (w' : World) : Prop where
  rel : RelSt C fid vars N G' st' a' w'
  ext : ∀ m, m ≤ st'.low → Ext G w G' w' m st.H.length
  marks : MarksOk G' w' base a'.defers

/-- Where the executor goes on, the machine goes on alike. -/
def CodeOk (C : Ctx) (fid : Nat → Nat) (call : CallT) (n : Nat) (c : Code) : Prop :=
  ∀ (ac : ACode) (vars : List Nat) (N : Nat), C.code vars N c = some ac → ∀ (st : St) (x : X) (st' : St), exec call n ac st = some (x, st') →
  ∀ (G : Gh) (a : Act) (w : World) (ro : Option Nat) (base : Nat) (Q : Exit → Act → World → Prop), RelSt C fid vars N G st a w → RoRel G st.ro ro → MarksOk G w base a.defers → base ≤ w.heap.size →
    (∀ G' a' w', Fin C fid vars N base st G w st' G' a' w' → Q (toExit x) a' w') → c.wpIn (FW ro) 0 C.P Q a w

section
variable {call : CallT} {n : Nat}

theorem Fin.refl {vars : List Nat} {N base : Nat} {st : St} {a : Act} (h : RelSt C fid vars N G st a w) (k : MarksOk G w base a.defers) : Fin C fid vars N base st G w st G a w :=
  ⟨h, fun m _ => .refl _ _ _ _, k⟩

theorem Fin.trans {vars : List Nat} {N base : Nat} {st st1 st2 : St} {G1 G2 : Gh} {a1 a2 : Act} {w1 w2 : World} (h : Fin C fid vars N base st G w st1 G1 a1 w1) (k : Fin C fid vars N base st1 G1 w1 st2 G2 a2 w2)
    (f1 : FrS st st1) (f2 : FrS st1 st2) : Fin C fid vars N base st G w st2 G2 a2 w2 :=
  ⟨k.rel, fun m hm => (h.ext m (Nat.le_trans hm f2.1.low)).trans ((k.ext m hm).le (Nat.le_refl _) f1.1.len), k.marks⟩

theorem code_region (hmix : C.P.follows .mixedOrders = true) (hC : CtxOk C fid) (hcall : CallOk C fid call) (id : Nat) (ops : Array Oper) (draw : Bool) : CodeOk C fid call n (.region id ops draw) := by
  intro ac vars N hc st x st' he G a w ro base Q hR hro hmk hb hQ
  simp only [Ctx.code] at hc
  split at hc
  · rename_i aops hm
    cases hd : draw with
    | false =>
      rw [hd] at hc
      simp only [Bool.not_false, if_true, Option.some.injEq] at hc
      subst hc
      simp only [exec, St.closed_eq] at he
      split at he
      · rename_i st1 wr h1
        cases he
        exact region_seq hC hcall hm h1 hR fun G' a' w' r1 r2 r3 => hQ G' a' w' ⟨r1.clear, r2, by rw [r3]; exact hmk.ext (r2 0 (Nat.zero_le _))⟩
      · cases he
    | true =>
      rw [hd] at hc
      simp only [Bool.not_true, Bool.false_eq_true, if_false] at hc
      split at hc
      · rename_i hcond
        simp only [Bool.and_eq_true] at hcond
        obtain ⟨⟨h1, h2⟩, h3⟩ := hcond
        cases hc
        simp only [exec, St.closed_eq] at he
        split at he
        · rename_i st1 wr h4
          split at he
          · rename_i hin
            cases he
            exact region_every hmix hC hcall hm h1 h2 h3 h4 hin hR fun G' a' w' r1 r2 r3 => hQ G' a' w' ⟨r1.clear, r2, by rw [r3]; exact hmk.ext (r2 0 (Nat.zero_le _))⟩
          · cases he
        · cases he
      · cases hc
  · cases hc

theorem code_seq (hfr : CallFr call) {x y : Code} (hx : CodeOk C fid call n x) (hy : CodeOk C fid call n y) : CodeOk C fid call n (.seq x y) := by
  intro ac vars N hc st r st' he G a w ro base Q hR hro hmk hb hQ
  simp only [Ctx.code] at hc
  split at hc
  · rename_i ax ay h1 h2
    cases hc
    simp only [exec, St.closed_eq] at he
    refine wpIn_seq ?_
    split at he
    · rename_i st1 he1
      have f1 := exec_fr hfr n _ _ _ _ hR.low he1
      refine hx _ _ _ h1 _ _ _ he1 G a w ro base _ hR hro hmk hb fun G1 a1 w1 F1 => ?_
      have f2 := exec_fr hfr n _ _ _ _ F1.rel.low he
      exact hy _ _ _ h2 _ _ _ he G1 a1 w1 ro base _ F1.rel (by rw [f1.2]; exact hro.ext (F1.ext 0 (Nat.zero_le _))) F1.marks (Nat.le_trans hb (F1.ext 0 (Nat.zero_le _)).size) fun G2 a2 w2 F2 => hQ G2 a2 w2 (F1.trans F2 f1 f2)
    · rename_i hne
      refine hx _ _ _ h1 _ _ _ he G a w ro base _ hR hro hmk hb fun G1 a1 w1 F1 => ?_
      have := hQ G1 a1 w1 F1
      cases r with
      | normal => exact absurd he (hne _)
      | exit id => exact this
      | ret => exact this
  · cases hc

theorem code_cond (hC : CtxOk C fid) {o : Operand} {x y : Code} (hx : CodeOk C fid call n x) (hy : CodeOk C fid call n y) : CodeOk C fid call n (.cond o x y) := by
  intro ac vars N hc st r st' he G a w ro base Q hR hro hmk hb hQ
  simp only [Ctx.code] at hc
  split at hc
  · rename_i c ax ay h0 h1 h2
    cases hc
    simp only [exec, St.closed_eq] at he
    have hv := opd_rel hC hR o c h0
    split at he
    · rename_i hb1
      rw [hb1] at hv
      exact wpIn_cond_true hv.boolInv (hx _ _ _ h1 _ _ _ he G a w ro base Q hR hro hmk hb hQ)
    · rename_i hb1
      rw [hb1] at hv
      exact wpIn_cond_false hv.boolInv (hy _ _ _ h2 _ _ _ he G a w ro base Q hR hro hmk hb hQ)
    · cases he
  · cases hc

theorem code_block {id : Nat} {x : Code} (hx : CodeOk C fid call n x) : CodeOk C fid call n (.block id x) := by
  intro ac vars N hc st r st' he G a w ro base Q hR hro hmk hb hQ
  simp only [Ctx.code] at hc
  obtain ⟨ax, h1, rfl⟩ := Option.map_eq_some_iff.1 hc
  simp only [exec, St.closed_eq] at he
  refine wpIn_block ?_
  split at he
  · rename_i id' st1 he1
    refine hx _ _ _ h1 _ _ _ he1 G a w ro base _ hR hro hmk hb fun G1 a1 w1 F1 => ?_
    split at he
    · rename_i hid
      cases he
      simp only [toExit, Exit.inBlock, hid, if_true]
      exact hQ G1 a1 w1 F1
    · rename_i hid
      cases he
      simp only [toExit, Exit.inBlock, hid, if_false]
      exact hQ G1 a1 w1 F1
  · rename_i hne
    refine hx _ _ _ h1 _ _ _ he G a w ro base _ hR hro hmk hb fun G1 a1 w1 F1 => ?_
    have := hQ G1 a1 w1 F1
    cases r with
    | normal => exact this
    | exit id => exact absurd he (hne _ _)
    | ret => exact this

theorem code_loop (hfr : CallFr call) {x : Code} (hx : CodeOk C fid call n x) : CodeOk C fid call n (.loop x) := by
  intro ac vars N hc st r st' he G a w ro base Q hR hro hmk hb hQ
  simp only [Ctx.code] at hc
  obtain ⟨ax, h1, rfl⟩ := Option.map_eq_some_iff.1 hc
  simp only [exec, St.closed_eq] at he
  refine wpIn_iter (fun k a1 w1 => ∃ st1 G1, iter (exec call n ax) k st1 = some (r, st') ∧ FrS st st1 ∧ Fin C fid vars N base st G w st1 G1 a1 w1) ?_ ⟨st, G, he, .refl _, .refl hR hmk⟩
  rintro k a1 w1 ⟨st1, G1, hi, hf, F1⟩
  cases k with
  | zero => simp [iter] at hi
  | succ k =>
    refine ⟨k, rfl, ?_⟩
    simp only [iter] at hi
    have hro1 : RoRel G1 st1.ro ro := by rw [hf.2]; exact hro.ext (F1.ext 0 (Nat.zero_le _))
    have hb1 : base ≤ w1.heap.size := Nat.le_trans hb (F1.ext 0 (Nat.zero_le _)).size
    split at hi
    · rename_i st2 he2
      have f2 := exec_fr hfr n _ _ _ _ F1.rel.low he2
      exact hx _ _ _ h1 _ _ _ he2 G1 a1 w1 ro base _ F1.rel hro1 F1.marks hb1 fun G2 a2 w2 F2 => ⟨st2, G2, hi, hf.trans f2, F1.trans F2 hf f2⟩
    · rename_i hne
      have f2 := exec_fr hfr n _ _ _ _ F1.rel.low hi
      refine hx _ _ _ h1 _ _ _ hi G1 a1 w1 ro base _ F1.rel hro1 F1.marks hb1 fun G2 a2 w2 F2 => ?_
      have := hQ G2 a2 w2 (F1.trans F2 hf f2)
      cases r with
      | normal => exact absurd hi (hne _)
      | exit id => exact this
      | ret => exact this

end
end Go.Abs
/- A range over a function; the whole code. -/
namespace Go.Abs
open Go
variable {C : Ctx} {fid : Nat → Nat} {w w' : World} {G G' : Gh} {H H' : Heap}

theorem getLoop_run {P : Program} {b : Nat} {L : Loop} (h : w.heap[b]? = some (.loop L)) : (Instr.getLoop b).run P w = .ok L w := run_getLoop h

theorem run_enterLoop_inner {P : Program} (fn : FuncId) (tmps : Array Value) (ps : Array Tmp) (assign body : Code) {b : Nat} {L : Loop} (h : w.heap[b]? = some (.loop L)) :
    (Instr.enterLoop fn tmps ps assign body (some b)).run P w = .ok (w.heap.size, []) (w.alloc (.loop { state := .ready, pending := none, fn, tmps, params := ps, assign, body, defers := L.defers })) := by
  unfold Instr.enterLoop
  simp only [Sem.run_bind, run_getLoop h, run_newObj_alloc, Result.andThen, Sem.run_pure]

theorem lookS_var {vars : List Nat} {st : St} {t : Nat} (h : t ∈ vars) : lookS vars st t = lookupE st.vE t := by
  unfold lookS; rw [if_pos (List.contains_iff_mem.2 h)]

/-- The record of a loop, and its block. -/
theorem loop_at (hR : RelH C fid G H w) {l : Nat} {h : Home} (hb : G.β l = some h) {st : LoopState} {pend : X} {env : Env} {ps : List Nat} {as bd : ACode} (hl : H[l]? = some (.loop st pend env ps as bd)) :
    h.tag = 0 ∧ h.fz = false ∧ ∃ L vars, w.heap[h.b]? = some (.loop L) ∧ L.state = st ∧ pendRel pend L.pending ∧
      L.params.toList = ps ∧ (∀ t ∈ ps, t ∈ vars ∧ t < L.tmps.size) ∧
      C.code vars L.tmps.size L.assign = some as ∧ C.code vars L.tmps.size L.body = some bd ∧ ∀ t ∈ vars, VRel fid G w (lookupE env t) (L.tmps.getD t undef) := by
  obtain ⟨o, ho, hr⟩ := hR.obj l h hb
  rw [hl] at ho
  cases ho
  exact hr

theorem upd_self {β : Nat → Option Home} {l : Nat} {h : Home} (hb : β l = some h) : upd β l h = β := by
  funext x
  unfold upd
  split
  · rename_i e; rw [e, hb]
  · rfl

/-- An object turned in its block, with its home as it was. -/
theorem turn (hR : RelH C fid G H w) {l : Nat} {h : Home} (hb : G.β l = some h) (hf : h.fz = false) (ob : Obj) (o : AObj)
    (ho : (∀ b, b ≠ h.b → (w.putObj h.b ob).heap[b]? = w.heap[b]?) → (w.putObj h.b ob).heap[h.b]? = some ob → (∀ b, G.I b → (w.putObj h.b ob).heap[b]? = w.heap[b]?) → ORel C fid G (w.putObj h.b ob) h o) :
    RelH C fid G (H.set l o) (w.putObj h.b ob) ∧ Ext G w G (w.putObj h.b ob) l H.length := by
  have hk : ∀ b, b ≠ h.b → (w.putObj h.b ob).heap[b]? = w.heap[b]? := fun b hb' => World.putObj_heap_other hb'
  have hI : ∀ b, G.I b → (w.putObj h.b ob).heap[b]? = w.heap[b]? := fun b hi => hk b fun e => by
    have := (hR.imm b hi).2 l h hb e.symm
    rw [hf] at this; cases this
  have h1 := ho hk (World.putObj_heap_same (hR.blk l h hb)) hI
  have hG : (⟨upd G.β l h, G.I⟩ : Gh) = G := by rw [upd_self hb]
  have a := RelH.write (w' := w.putObj h.b ob) hR hb hf rfl hf (Nat.le_refl _) id rfl (by simp) hk o (by rw [hG]; exact h1)
  have b := Ext.write (w' := w.putObj h.b ob) hR hb hf rfl (Nat.le_refl _) id rfl (by simp) hk rfl rfl
  rw [hG] at a b
  exact ⟨a, b⟩

section
variable {call : CallT} {n : Nat}

theorem code_range (hC : CtxOk C fid) (hcall : CallOk C fid call) {f : Operand} {ps : Array Tmp} {as bd : Code} : CodeOk C fid call n (.rangeFunc f ps as bd) := by
  intro ac vars N hc st r st' he G a w ro base Q hR hro hmk hb hQ
  simp only [Ctx.code] at hc
  split at hc
  · rename_i af aas abd h0 h1 h2
    split at hc
    · rename_i hps
      cases hc
      have hps' : ∀ t ∈ ps.toList, t ∈ vars ∧ t < N := fun t ht => by
        have := (Array.all_eq_true_iff_forall_mem.1 hps) t (Array.mem_toList_iff.1 ht)
        simp only [Bool.and_eq_true, decide_eq_true_eq, List.contains_iff_mem] at this
        exact ⟨this.2, this.1⟩
      simp only [exec] at he
      split at he
      · cases he
      · rename_i hok
        simp only [Bool.not_eq_false, Bool.and_eq_true] at hok
        obtain ⟨hok1, hok2⟩ := hok
        split at he
        · rename_i u H1 low1 hcl
          split at he
          · rename_i ls pend env' ps' as' bd' hl1
            split at he
            · cases he
            · rename_i hbusy
              cases he
              have hvf := opd_rel hC hR f af h0
              refine wpIn_rangeFunc fun fn _ => ?_
              -- the record is laid
              obtain ⟨w0, mark, R, hent, hrel0, hext0, hmk0, hR1, hR2, hR3, hR4, hR5, hR6⟩ : ∃ (w0 : World) (mark : List Deferred) (R : Loop),
                  (Instr.enterLoop fn a.tmps ps as bd (FW ro).round).run C.P w = .ok (w0.heap.size, mark) (w0.alloc (.loop R)) ∧ RelH C fid G st.H w0 ∧ (∀ m n, Ext G w G w0 m n) ∧ MarksOk G w0 base (mark ++ a.defers) ∧
                  R.state = .ready ∧ R.pending = none ∧ R.tmps = a.tmps ∧ R.params = ps ∧ R.assign = as ∧ R.body = bd := by
                cases hro' : ro with
                | none =>
                  have hk : ∀ b, b < w.heap.size → (w.alloc (.deferred (some []))).heap[b]? = w.heap[b]? := fun b hb' => alloc_old hb'
                  have hsz : w.heap.size ≤ (w.alloc (.deferred (some []))).heap.size := by simp
                  refine ⟨w.alloc (.deferred (some [])), [markOf w.heap.size], { state := .ready, pending := none, fn, tmps := a.tmps, params := ps, assign := as, body := bd, defers := w.heap.size }, ?_, hR.rel.restore hsz hk, fun m n => .restore hsz hk rfl rfl m n, ?_, rfl, rfl, rfl, rfl, rfl, rfl⟩
                  · have := run_enterLoop_outer (P := C.P) (w := w) fn a.tmps ps as bd
                    rw [show (FW none).round = none from rfl, this]
                    simp [markOf]
                  · obtain ⟨rs, e, nd, k⟩ := hmk.ext (.restore (G := G) hsz hk rfl rfl 0 0)
                    refine ⟨w.heap.size :: rs, by rw [e]; rfl, List.nodup_cons.2 ⟨fun hin => ?_, nd⟩, fun r hr => ?_⟩
                    · obtain ⟨rs', e', nd', k'⟩ := hmk
                      have hrs : rs = rs' := by
                        have := e.symm.trans e'
                        exact (List.map_inj_right fun x y hxy => by simpa [markOf] using hxy).1 this
                      have := (k' _ (hrs ▸ hin)).lt
                      omega
                    · rcases List.mem_cons.1 hr with rfl | hr
                      · exact ⟨hb, by simp, alloc_new _ _, fun l h e q => by have := hR.rel.blk l h e; omega, fun hi => by have := (hR.rel.imm _ hi).1; omega⟩
                      · exact k r hr
                | some b =>
                  subst hro'
                  cases hsr : st.ro with
                  | none => rw [hsr] at hro; exact hro.elim
                  | some l0 =>
                    rw [hsr] at hro hok1
                    obtain ⟨h, e, t, q⟩ := hro
                    simp only [roOk] at hok1
                    split at hok1
                    · rename_i hl0
                      obtain ⟨-, -, L, vs, hL, -⟩ := loop_at hR.rel e hl0
                      rw [q] at hL
                      exact ⟨w, [], { state := .ready, pending := none, fn, tmps := a.tmps, params := ps, assign := as, body := bd, defers := L.defers }, run_enterLoop_inner fn a.tmps ps as bd hL, hR.rel, fun m n => .refl _ _ _ _, hmk, rfl, rfl, rfl, rfl, rfl, rfl⟩
                    · cases hok1
              -- its object
              let hm : Home := ⟨w0.heap.size, 0, 0, false⟩
              let G1 : Gh := ⟨upd G.β st.H.length hm, G.I⟩
              have hG1 : HomesLe G.β G1.β := homes_upd_new (hrel0.none (Nat.le_refl _)) _
              have hI1 : ∀ b, G.I b → G1.I b ∧ (w0.alloc (.loop R)).heap[b]? = w0.heap[b]? := fun b hi => ⟨hi, alloc_old (hrel0.imm b hi).1⟩
              have hv0 : ∀ t, VRel fid G w0 (lookS vars st t) (a.tmps.getD t undef) := fun t => (hR.env t).ext hR.rel (hext0 0 0)
              have hrel1 : RelH C fid G1 (st.H ++ [.loop .ready .normal st.vE ps.toList aas abd]) (w0.alloc (.loop R)) := by
                refine hrel0.push _ _ 0 0 ⟨rfl, rfl, R, vars, alloc_new _ _, hR1, by rw [hR2]; trivial, by rw [hR4], fun t ht => ⟨(hps' t ht).1, by rw [hR3, hR.size]; exact (hps' t ht).2⟩, ?_, ?_, fun t ht => ?_⟩
                · rw [hR3, hR5, hR.size]; exact h1
                · rw [hR3, hR6, hR.size]; exact h2
                · rw [hR3, ← lookS_var ht]; exact (hv0 t).mono hG1 hI1
              have hext1 : ∀ m, Ext G w0 G1 (w0.alloc (.loop R)) m st.H.length := fun m => .push hrel0 _ 0 0 m
              have hvf1 : VRel fid G1 (w0.alloc (.loop R)) (af.ev st.tE st.vE) (a.eval f) := ((hvf.ext hR.rel (hext0 0 0)).mono hG1 hI1)
              have hva1 : VRels fid G1 (w0.alloc (.loop R)) [.yield st.H.length] [.func (.yield w0.heap.size) #[] #[]] :=
                .cons _ _ _ _ (.yield st.H.length hm (upd_same _ _ _) rfl) .nil
              obtain ⟨d, hd, hn, hent2⟩ := hcall.run hrel1 hvf1 hva1 hcl
              obtain ⟨g, gs, hinv⟩ := hent2 hok2 rfl
              rw [hinv] at hn
              refine ⟨w0.heap.size, mark, _, d, w0.alloc (.loop R), g, gs, _, hent, ?_, fun _ _ => trivial, hinv, fun h => by simp [FW] at h, ?_⟩
              · have e : Array.map a.eval #[Operand.const (Value.func (Fn.yield w0.heap.size) #[] #[])] = ⟨[Value.func (Fn.yield w0.heap.size) #[] #[]]⟩ := by simp [Act.eval]
                simp only [resolve, rangeCall, e]; exact hd
              · have hn' : Calls C.P g gs (w0.alloc (.loop R)) (rangePost (FW ro) 0 C.P w0.heap.size Q { a with defers := mark ++ a.defers }) := by
                  refine Calls.mono hn fun e w3 hp => ?_
                  obtain ⟨y, rfl, G2, q1, q2, q3⟩ := hp
                  have hE2 := q2 0 (Nat.zero_le _)
                  obtain ⟨h2, e2, -, z2, m2, -⟩ := hE2.homes st.H.length hm (upd_same _ _ _)
                  have t2 := z2 rfl
                  have b2 : h2.b = w0.heap.size := (m2 t2).1
                  obtain ⟨-, fz2, L, vs, hL, hL1, hL2, -⟩ := loop_at q1 e2 hl1
                  rw [b2] at hL
                  have hT := turn q1 e2 fz2 (.loop { L with state := .exhausted }) .gone fun _ _ _ => ⟨t2, fz2⟩
                  rw [b2] at hT
                  have hlow1 := hcall.fr _ _ _ _ _ _ hcl
                  have hlen : st.H.length ≤ H1.length := by have := hlow1.len; simp at this; omega
                  have hExt : ∀ m, m ≤ min st.low low1 → Ext G w G2 (w3.putObj w0.heap.size (.loop { L with state := .exhausted })) m st.H.length := fun m hm' =>
                    ((hext0 m st.H.length).trans (hext1 m)).trans (((q2 m (by omega)).le (Nat.le_refl _) (by simp)).trans (hT.2.le (by have := hR.low; omega) hlen))
                  have hE := hExt 0 (Nat.zero_le _)
                  have hrst : RelSt C fid vars N G2 { st with H := H1.set st.H.length .gone, low := min st.low low1 } { a with defers := mark ++ a.defers } (w3.putObj w0.heap.size (.loop { L with state := .exhausted })) :=
                    ⟨hT.1, fun t => (hR.env t).ext hR.rel hE, hR.size, by simp only [List.length_set]; have := hR.low; omega⟩
                  have hmks : MarksOk G2 (w3.putObj w0.heap.size (.loop { L with state := .exhausted })) base (mark ++ a.defers) := ((hmk0.ext (hext1 0)).ext hE2).ext (hT.2.le (Nat.zero_le _) (Nat.le_refl _))
                  have hq := hQ G2 _ _ ⟨hrst, hExt, hmks⟩
                  refine ⟨L.pending, _, run_endLoop hL (by rw [hL1]; exact hbusy), ?_⟩
                  cases hp : L.pending with
                  | none =>
                    rw [hp] at hL2 hq
                    cases r with
                    | normal => exact hq
                    | exit i => exact hL2.elim
                    | ret => exact hL2.elim
                  | some c =>
                    rw [hp] at hL2 hq
                    cases r with
                    | normal => exact hL2.elim
                    | exit i =>
                      cases c <;> first | exact hL2.elim | skip
                      rename_i j
                      have : j = i := hL2
                      subst this
                      exact wpIn_exit hq
                    | ret =>
                      cases c <;> first | exact hL2.elim | skip
                      exact wpIn_ret hq
                exact callsIn_wide.2 hn'
          · cases he
        · cases he
    · cases hc
  · cases hc

theorem code_ok (hmix : C.P.follows .mixedOrders = true) (hC : CtxOk C fid) (hcall : CallOk C fid call) : ∀ (c : Code), CodeOk C fid call n c
  | .skip => by
    intro ac vars N hc st r st' he G a w ro base Q hR hro hmk hb hQ
    simp only [Ctx.code, Option.some.injEq] at hc
    subst hc
    simp only [exec, Option.some.injEq, Prod.mk.injEq] at he
    obtain ⟨rfl, rfl⟩ := he
    exact wpIn_skip (hQ G a w (.refl hR hmk))
  | .region id ops draw => code_region hmix hC hcall id ops draw
  | .seq x y => code_seq hcall.fr (code_ok hmix hC hcall x) (code_ok hmix hC hcall y)
  | .cond o x y => code_cond hC (code_ok hmix hC hcall x) (code_ok hmix hC hcall y)
  | .block id x => code_block (code_ok hmix hC hcall x)
  | .loop x => code_loop hcall.fr (code_ok hmix hC hcall x)
  | .rangeFunc f ps x y => code_range hC hcall
  | .exit id => by
    intro ac vars N hc st r st' he G a w ro base Q hR hro hmk hb hQ
    simp only [Ctx.code, Option.some.injEq] at hc
    subst hc
    simp only [exec, Option.some.injEq, Prod.mk.injEq] at he
    obtain ⟨rfl, rfl⟩ := he
    exact wpIn_exit (hQ G a w (.refl hR hmk))
  | .ret => by
    intro ac vars N hc st r st' he G a w ro base Q hR hro hmk hb hQ
    simp only [Ctx.code, Option.some.injEq] at hc
    subst hc
    simp only [exec, Option.some.injEq, Prod.mk.injEq] at he
    obtain ⟨rfl, rfl⟩ := he
    exact wpIn_ret (hQ G a w (.refl hR hmk))
  | .scope _ | .label _ | .goto _ | .refuse _ => by
    intro ac vars N hc st r st' he
    simp only [Ctx.code, Option.some.injEq] at hc
    subst hc
    simp [exec] at he

end
end Go.Abs
/- Calls: a function's body, a round of a loop; every call that the executor makes goes as it says. -/
namespace Go.Abs
open Go
variable {C : Ctx} {fid : Nat → Nat} {w w' : World} {G G' : Gh} {H H' : Heap} {call : CallT} {n : Nat}

/-- A function of the library, met by its contract. -/
def ExtOk (C : Ctx) (fid : Nat → Nat) (i : Nat) (spec : List V → Option V) : Prop :=
  ∀ {G : Gh} {H : Heap} {w : World} {args : List V} {v : V} {xs : List Value}, RelH C fid G H w → PRels w G.I args xs → spec args = some v → NextRuns C.P (Post C fid G H w v H H.length) ((callFunc i ⟨xs⟩).run C.P w)

/-- The table of the functions is the program's. -/
structure TabOk (C : Ctx) (fid : Nat → Nat) (tab : Nat → Option Fun) : Prop where
  code : ∀ i f, tab i = some (.code f) → ∃ fn, C.P.funcs[i]? = some fn ∧ C.func fn f.fresh = some f
  ext : ∀ i spec, tab i = some (.ext spec) → ExtOk C fid i spec

/-! ### a round -/

theorem fold_env {vars : List Nat} : ∀ (ps : List Nat) (vs : List V) (xs : List Value) (env : Env) (tmps : Array Value), VRels fid G w vs xs → (∀ t ∈ ps, t < tmps.size) →
    (∀ t, t ∈ vars → VRel fid G w (lookupE env t) (tmps.getD t undef)) →
    ((ps.zip xs).foldl (fun (tm : Array Value) (p : Nat × Value) => tm.setIfInBounds p.1 p.2) tmps).size = tmps.size ∧
      ∀ t, t ∈ vars → VRel fid G w (lookupE ((ps.zip vs).foldl (fun e (p : Nat × V) => setE e p.1 p.2) env) t) (((ps.zip xs).foldl (fun (tm : Array Value) (p : Nat × Value) => tm.setIfInBounds p.1 p.2) tmps).getD t undef)
  | [], vs, xs, env, tmps, _, _, h => ⟨rfl, by simpa using h⟩
  | p :: ps, _, _, env, tmps, .nil, _, h => ⟨rfl, by simpa using h⟩
  | p :: ps, _, _, env, tmps, .cons v x vs xs hv hs, hlt, h => by
    have h1 := fold_env ps vs xs (setE env p v) (tmps.setIfInBounds p x) hs (fun t ht => by rw [Array.size_setIfInBounds]; exact hlt t (by simp [ht])) fun t ht => by
      rw [lookupE_setE]
      have := getD_put { tmps := tmps, defers := [] } p x t (hlt p (by simp))
      simp only [Act.put] at this
      rw [this]
      by_cases e : t = p
      · rw [if_pos e, if_pos e]; exact hv
      · rw [if_neg e, if_neg e]; exact h t ht
    simp only [List.zip_cons_cons, List.foldl_cons]
    rw [Array.size_setIfInBounds] at h1
    exact h1

theorem MarksOk.nil (G : Gh) (w : World) (base : Nat) : MarksOk G w base [] := ⟨[], rfl, List.nodup_nil, fun r hr => by cases hr⟩

theorem yield_sound (hmix : C.P.follows .mixedOrders = true) (hC : CtxOk C fid) (hcall : CallOk C fid call) {l : Nat} {args : List V} {v : V} {low' : Nat} {xs : List Value} {h : Home}
    (he : yieldBody (exec call n) l args H = some (v, H', low')) (hR : RelH C fid G H w) (hb : G.β l = some h) (hv : VRels fid G w args xs) :
    NextRuns C.P (Post C fid G H w v H' low') ((Instr.yield h.b ⟨xs⟩).run C.P w) := by
  unfold yieldBody at he
  split at he
  · rename_i p0 env params aas abd hl0
    obtain ⟨ht, hfz, L, vars, hL, hL1, hL2, hL3, hL4, hL5, hL6, hL7⟩ := loop_at hR hb hl0
    split at he
    · rename_i hlen
      have hys := run_yield (P := C.P) (args := ⟨xs⟩) hL (by rw [← Array.length_toList, ← Array.length_toList, hL3, VRels.length hv, hlen])
      rw [hys]
      have hfold : (r : Array Value) → ((L.params.zip (⟨xs⟩ : Array Value)).foldl (fun tmps (t, a) => tmps.setIfInBounds t a) r) = (params.zip xs).foldl (fun (tm : Array Value) (p : Nat × Value) => tm.setIfInBounds p.1 p.2) r := fun r => by
        rw [← Array.foldl_toList, Array.toList_zip, hL3]
      rw [hfold]
      obtain ⟨hsz, henv⟩ := fold_env (vars := vars) params args xs env L.tmps hv (fun t ht => (hL4 t ht).2) hL7
      -- the assignments
      split at he
      · rename_i st1 he1
        have f1 := exec_fr hcall.fr n _ _ _ _ (Nat.le_refl _) he1
        split at he
        · rename_i p1 env1 ps1 as1 bd1 hl1
          split at he
          · rename_i x st3 he3
            split at he
            · rename_i ls3 p3 env3 ps3 as3 bd3 hl3
              cases he
              refine roundIn_of_wpIn trivial ?_
              have hR0 : RelSt C fid vars L.tmps.size G { tE := [], vE := (params.zip args).foldl (fun e (t, v) => setE e t v) env, H, low := H.length, ro := some l }
                  { tmps := (params.zip xs).foldl (fun (tm : Array Value) (p : Nat × Value) => tm.setIfInBounds p.1 p.2) L.tmps, defers := [] } w :=
                ⟨hR, fun t => by
                  unfold lookS
                  split
                  · rename_i hin; exact henv t (List.contains_iff_mem.1 hin)
                  · exact .undef _, hsz, Nat.le_refl _⟩
              refine code_ok (n := n) hmix hC hcall L.assign _ vars _ hL5 _ _ _ he1 G _ w (some h.b) 0 _ hR0 ⟨h, hb, ht, rfl⟩ (.nil _ _ _) (Nat.zero_le _) ?_
              intro G1 a1 w1 F1
              -- the round begins
              have hE1 := F1.ext 0 (Nat.zero_le _)
              obtain ⟨h1, e1, -, z1, m1, -⟩ := hE1.homes l h hb
              have hb1 : h1.b = h.b := (m1 ((z1 ht).trans ht.symm)).1
              obtain ⟨t1, fz1, L1, vars1, q1, q2, q3, q4, q5, q6, q7, q8⟩ := loop_at F1.rel.rel e1 hl1
              have hT1 := turn F1.rel.rel e1 fz1 (.loop { L1 with state := .busy }) (.loop .busy p1 env1 ps1 as1 bd1) fun k1 k2 k3 =>
                ⟨t1, fz1, _, vars1, k2, rfl, q3, q4, q5, q6, q7, fun t ht => (q8 t ht).mono (.refl _) fun b hb => ⟨hb, k3 b hb⟩⟩
              have hbeg := run_beginRound (P := C.P) q1 q2
              rw [hb1] at hT1 hbeg
              refine ⟨_, hbeg, ?_⟩
              -- its body
              have hlow1 : min st1.low l ≤ st1.H.length := by have := F1.rel.low; omega
              have hR1 : RelSt C fid vars L.tmps.size G1 { st1 with H := st1.H.set l (.loop .busy p1 env1 ps1 as1 bd1), low := min st1.low l } a1 (w1.putObj h.b (.loop { L1 with state := .busy })) :=
                ⟨hT1.1, fun t => (F1.rel.env t).ext F1.rel.rel hT1.2, F1.rel.size, by simpa using hlow1⟩
              have hro1 : st1.ro = some l := f1.2
              refine code_ok (n := n) hmix hC hcall L.body _ vars _ hL6 _ _ _ he3 G1 a1 _ (some h.b) 0 _ hR1 (by simp only [hro1]; exact ⟨h1, e1, t1, hb1⟩) (F1.marks.ext hT1.2) (Nat.zero_le _) ?_
              intro G3 a3 w3 F3
              have f3 := exec_fr hcall.fr n _ _ _ _ (by simpa using hlow1) he3
              have hE3 := F3.ext 0 (Nat.zero_le _)
              obtain ⟨h3, e3, -, z3, m3, -⟩ := hE3.homes l h1 e1
              have hb3 : h3.b = h.b := (m3 ((z3 t1).trans t1.symm)).1.trans hb1
              obtain ⟨t3, fz3, L3, vars3, r1, r2, r3, r4, r5, r6, r7, r8⟩ := loop_at F3.rel.rel e3 hl3
              have hlenf : H.length ≤ st1.H.length := f1.1.len
              have hlen3 : st1.H.length ≤ st3.H.length := by have := f3.1.len; simpa using this
              have hlow3 : st3.low ≤ st1.low ∧ st3.low ≤ l := by have := f3.1.low; simp only at this; omega
              have hExt : ∀ (jump : Option Code) (ls : LoopState), RelH C fid G3 (st3.H.set l (.loop ls x env3 ps3 as3 bd3)) (w3.putObj h.b (.loop { L3 with state := ls, pending := jump })) ∧
                  Ext G3 w3 G3 (w3.putObj h.b (.loop { L3 with state := ls, pending := jump })) l st3.H.length →
                  ∀ m, m ≤ min st3.low l → Ext G w G3 (w3.putObj h.b (.loop { L3 with state := ls, pending := jump })) m H.length := fun jump ls hT m hm =>
                ((F1.ext m (by omega)).trans ((hT1.2.le (m' := m) (by omega) hlenf))).trans (((F3.ext m (by omega)).le (Nat.le_refl _) (by simpa using hlenf)).trans (hT.2.le (by omega) (Nat.le_trans hlenf hlen3)))
              have hT : ∀ (jump : Option Code) (ls : LoopState), pendRel x jump → RelH C fid G3 (st3.H.set l (.loop ls x env3 ps3 as3 bd3)) (w3.putObj h.b (.loop { L3 with state := ls, pending := jump })) ∧
                  Ext G3 w3 G3 (w3.putObj h.b (.loop { L3 with state := ls, pending := jump })) l st3.H.length := fun jump ls hp => by
                have := turn F3.rel.rel e3 fz3 (.loop { L3 with state := ls, pending := jump }) (.loop ls x env3 ps3 as3 bd3) fun k1 k2 k3 =>
                  ⟨t3, fz3, _, vars3, k2, rfl, hp, r4, r5, r6, r7, fun t ht => (r8 t ht).mono (.refl _) fun b hb => ⟨hb, k3 b hb⟩⟩
                rw [hb3] at this; exact this
              rw [hb3] at r1
              cases x with
              | normal =>
                have T := hT none .ready trivial
                exact ⟨_, _, run_endRound none r1, _, rfl, G3, T.1, hExt none .ready T, .p _ _ (.bool true)⟩
              | exit id =>
                have T := hT (some (.exit id)) .done rfl
                exact ⟨_, _, run_endRound (some (.exit id)) r1, _, rfl, G3, T.1, hExt _ .done T, .p _ _ (.bool false)⟩
              | ret =>
                have T := hT (some .ret) .done trivial
                exact ⟨_, _, run_endRound (some .ret) r1, _, rfl, G3, T.1, hExt _ .done T, .p _ _ (.bool false)⟩
            · cases he
          · cases he
        · cases he
      · cases he
    · cases he
  · cases he

end Go.Abs
/- Calls, whole. -/
namespace Go.Abs
open Go
variable {C : Ctx} {fid : Nat → Nat} {w w' : World} {G G' : Gh} {H H' : Heap} {call : CallT} {n : Nat}

/-! ### what a call leaves -/

theorem ORel.tags {h h' : Home} {o : AObj} (a : ORel C fid G w h o) (b : ORel C fid G' w' h' o) : h.tag = h'.tag ∧ h.fz = h'.fz := by
  cases o with
  | cells vs => exact ⟨a.1.trans b.1.symm, a.2.1.trans b.2.1.symm⟩
  | row es ds fz => exact ⟨a.1.trans b.1.symm, a.2.2.1.trans b.2.2.1.symm⟩
  | map ents => exact ⟨a.1.trans b.1.symm, a.2.1.trans b.2.1.symm⟩
  | loop => exact ⟨a.1.trans b.1.symm, a.2.1.trans b.2.1.symm⟩
  | gone => exact ⟨a.1.trans b.1.symm, a.2.trans b.2.symm⟩

/-- Where no old object was written, the old ones stand where they stood. -/
theorem homes_same (hR : RelH C fid G H w) (hR' : RelH C fid G' H' w') (hle : HomesLe G.β G'.β) (hs : ∀ l, l < H.length → H'[l]? = H[l]?) {l : Nat} {h : Home} (e : G.β l = some h) : G'.β l = some h := by
  obtain ⟨h', e', -, -, m, -⟩ := hle l h e
  obtain ⟨o, ho, r⟩ := hR.obj l h e
  obtain ⟨o', ho', r'⟩ := hR'.obj l h' e'
  rw [hs l (hR.lt e), ho] at ho'
  cases ho'
  obtain ⟨t, f⟩ := r.tags r'
  obtain ⟨mb, mc⟩ := m t.symm
  rw [e']
  congr 1
  cases h; cases h'; simp_all

/-- Back to the old objects, the lists that are never written again kept. -/
theorem forget (hR : RelH C fid G H w) (hR' : RelH C fid G' H' w') {m n : Nat} (hE : Ext G w G' w' m n) (hm : H.length ≤ m) (hn : H.length ≤ n) (hs : ∀ l, l < H.length → H'[l]? = H[l]?) :
    RelH C fid ⟨G.β, G'.I⟩ H w' ∧ (∀ m n, Ext G w ⟨G.β, G'.I⟩ w' m n) ∧ ∀ {v : V} {x : Value}, VRel fid G' w' v x → old H.length v = true → VRel fid ⟨G.β, G'.I⟩ w' v x := by
  have hk := hE.keepAll hR hm
  have hsame := fun l h e => homes_same (l := l) (h := h) hR hR' hE.homes hs e
  refine ⟨⟨fun l h e => ?_, hR.inj, fun l h e => Nat.lt_of_lt_of_le (hR.blk l h e) hE.size, fun b hb => ⟨(hR'.imm b hb).1, fun l h e q => (hR'.imm b hb).2 l h (hsame l h e) q⟩, fun l h e q => hE.imm _ (hR.fzI l h e q),
      fun b o hg => ⟨hE.imm _ (hR.glob b o hg).1, by rw [hk b (hR.imm b (hR.glob b o hg).1).1]; exact (hR.glob b o hg).2⟩⟩, fun m n => ⟨hE.size, hE.os, hE.output, fun b hb _ => hk b hb, .refl _, fun l h e => .inl ⟨h, e, .inl rfl⟩, hE.imm, hE.newI⟩,
    fun hv ho => hv.restrict (G := G') (G' := ⟨G.β, G'.I⟩) (n := H.length) (fun l h hl e => ?_) (fun b hb => ⟨hb, rfl⟩) (.inl ho)⟩
  · obtain ⟨o, ho, r⟩ := hR.obj l h e
    exact ⟨o, ho, ORel.mono (G := G) (G' := ⟨G.β, G'.I⟩) (.refl _) (fun b hb => ⟨hE.imm b hb, hk b (hR.imm b hb).1⟩) (hk _ (hR.blk l h e)) r⟩
  · rcases hE.newH l h e with ⟨h0, e0, -⟩ | ⟨hl', -⟩
    · have := hsame l h0 e0
      rw [e] at this; cases this
      exact ⟨h, e0, rfl⟩
    · omega

theorem olds_append (n : Nat) : ∀ (a b : List V), olds n (a ++ b) = (olds n a && olds n b)
  | [], b => by simp [olds]
  | v :: a, b => by simp [olds, olds_append n a b, Bool.and_assoc]

theorem olds_cells (n : Nat) (v : V) (h : old n v = true) : olds n (cellsV v) = true := by
  cases v <;> simp_all [cellsV, olds, old]

theorem olds_flat (n : Nat) : ∀ {ds : List V}, olds n ds = true → olds n (ds.flatMap cellsV) = true
  | [], _ => rfl
  | d :: ds, h => by
    simp only [olds, Bool.and_eq_true] at h
    rw [List.flatMap_cons, olds_append, olds_cells n d h.1, olds_flat n h.2]; rfl

theorem finish_sound {fresh : Bool} {H1 : Heap} {v v' : V} {low low' : Nat} {x : Value} (hR : RelH C fid G H w) (hR' : RelH C fid G' H1 w') (hE : ∀ m, m ≤ low → Ext G w G' w' m H.length) (hf : Fr H H.length H1 low)
    (hv : VRel fid G' w' v x) (he : finish fresh H v H1 low = some (v', H', low')) : Post C fid G H w v' H' low' x w' := by
  unfold finish at he
  split at he
  · rename_i l es off len tag
    split at he
    · rename_i es' ds hl
      split at he
      · rename_i hc
        obtain ⟨c1, c2, c3, c4, c5⟩ := hc
        subst c3 c4
        cases he
        have hs := fun l hl' => hf.same l (Nat.lt_of_lt_of_le hl' c1)
        have hE0 := hE H.length c1
        obtain ⟨p1, p2, -⟩ := forget hR hR' hE0 (Nat.le_refl _) (Nat.le_refl _) hs
        obtain ⟨h, a, m, cap, hb, hle, ha, rfl⟩ := hv.srefInv
        obtain ⟨o, ho, hr⟩ := hR'.obj l h hb
        rw [hl] at ho; cases ho
        have hkb : w.heap.size ≤ h.b := by
          rcases hE0.newH l h hb with ⟨h0, e0, -⟩ | ⟨-, q⟩
          · have := hR.lt e0; omega
          · exact q
        have hnone := hR.none (Nat.le_refl H.length)
        let G2 : Gh := ⟨upd G.β H.length h, G'.I⟩
        have hle2 : HomesLe G.β G2.β := homes_upd_new hnone h
        have hsame := fun l h e => homes_same (l := l) (h := h) hR hR' hE0.homes hs e
        have hret : ∀ {vs : List V} {xs : List Value}, VRels fid G' w' vs xs → olds H.length vs = true → VRels fid G2 w' vs xs := fun hvs hold =>
          hvs.restrict (G := G') (G' := G2) (n := H.length) (fun y h0 hy e => by
            rcases hE0.newH y h0 e with ⟨h1, e1, -⟩ | ⟨hl', -⟩
            · have := hsame y h1 e1
              rw [e] at this; cases this
              exact ⟨h0, by show upd _ _ _ _ = _; rw [upd_other (by omega)]; exact e1, rfl⟩
            · omega) (fun b hb => ⟨hb, rfl⟩) (.inl hold)
        have hO : ORel C fid G2 w' h (.row es' ds false) := by
          obtain ⟨r1, r2, r3, r4, r5, c, e, vals, rest, r6, r7, r8, r9⟩ := hr
          exact ⟨r1, r2, r3, r4, r5, c, e, vals, rest, r6, r7, r8, hret r9 (olds_flat _ c5)⟩
        refine ⟨G2, ⟨fun y h0 e => ?_, fun y z h0 h1 e1 e2 q => ?_, fun y h0 e => ?_, fun b hb => ⟨(hR'.imm b hb).1, fun y h0 e q => ?_⟩, fun y h0 e q => ?_, p1.glob⟩, fun m hm => ?_, ?_⟩
        · by_cases hy : y = H.length
          · subst hy; rw [show G2.β = upd _ _ _ from rfl, upd_same] at e; cases e
            exact ⟨_, by simp, hO⟩
          · rw [show G2.β = upd _ _ _ from rfl, upd_other hy] at e
            obtain ⟨o, ho, r⟩ := p1.obj y h0 e
            exact ⟨o, by rw [List.getElem?_append_left (hR.lt e)]; exact ho, ORel.mono (G := ⟨G.β, G'.I⟩) (G' := G2) hle2 (fun b hb => ⟨hb, rfl⟩) rfl r⟩
        · by_cases hy : y = H.length <;> by_cases hz : z = H.length
          · rw [hy, hz]
          · subst hy; rw [show G2.β = upd _ _ _ from rfl, upd_same] at e1; cases e1
            rw [show G2.β = upd _ _ _ from rfl, upd_other hz] at e2
            have := hR.blk z h1 e2; omega
          · subst hz; rw [show G2.β = upd _ _ _ from rfl, upd_same] at e2; cases e2
            rw [show G2.β = upd _ _ _ from rfl, upd_other hy] at e1
            have := hR.blk y h0 e1; omega
          · rw [show G2.β = upd _ _ _ from rfl, upd_other hy] at e1
            rw [show G2.β = upd _ _ _ from rfl, upd_other hz] at e2
            exact hR.inj y z h0 h1 e1 e2 q
        · by_cases hy : y = H.length
          · subst hy; rw [show G2.β = upd _ _ _ from rfl, upd_same] at e; cases e; exact hR'.blk l h hb
          · rw [show G2.β = upd _ _ _ from rfl, upd_other hy] at e; exact p1.blk y h0 e
        · by_cases hy : y = H.length
          · subst hy; rw [show G2.β = upd _ _ _ from rfl, upd_same] at e; cases e
            exact (hR'.imm b hb).2 l h (by assumption) q
          · rw [show G2.β = upd _ _ _ from rfl, upd_other hy] at e; exact p1.imm b hb |>.2 y h0 e q
        · by_cases hy : y = H.length
          · subst hy; rw [show G2.β = upd _ _ _ from rfl, upd_same] at e; cases e
            exact hR'.fzI l h hb q
          · rw [show G2.β = upd _ _ _ from rfl, upd_other hy] at e; exact p1.fzI y h0 e q
        · have q := p2 m H.length
          exact ⟨q.size, q.os, q.output, q.keep, hle2, fun y h0 e => by
            by_cases hy : y = H.length
            · subst hy; rw [show G2.β = upd _ _ _ from rfl, upd_same] at e; cases e; exact .inr ⟨Nat.le_refl _, hkb⟩
            · rw [show G2.β = upd _ _ _ from rfl, upd_other hy] at e; exact .inl ⟨h0, e, .inl rfl⟩, q.imm, q.newI⟩
        · exact .sref H.length es' off len _ h a m cap (upd_same _ _ _) hle ha
      · cases he
    · cases he
  · split at he
    · rename_i v1 H2 low2 hz
      obtain ⟨G2, fz, hv2⟩ := freezeV_sound hR' hv hz
      have hfr := hf.trans (freezeV_fr hz).1
      have hE2 : ∀ m, m ≤ low2 → Ext G w G2 w' m H.length := fun m hm => (hE m (Nat.le_trans hm fz.low)).trans ((fz.ext m hm).le (Nat.le_refl _) hf.len)
      split at he
      · rename_i hc
        cases he
        obtain ⟨p1, p2, p3⟩ := forget hR fz.rel (hE2 H.length hc.1) (Nat.le_refl _) (Nat.le_refl _) (fun l hl => hfr.same l (Nat.lt_of_lt_of_le hl hc.1))
        exact ⟨_, p1, fun m _ => p2 m _, p3 hv2 hc.2⟩
      · cases he
        exact ⟨G2, fz.rel, hE2, hv2⟩
    · cases he

/-! ### the results of a body -/

theorem loadA_addr {sh : Option Nat} {a u : V} {x : Value} (ha : VRel fid G w a x) (he : loadA H sh a = some u) : ∃ ad, x = .pointer (some ad) := by
  unfold loadA at he
  split at he
  · obtain ⟨h, -, -, rfl⟩ := ha.ptrInv; exact ⟨_, rfl⟩
  · obtain ⟨h, ad, -, -, -, rfl⟩ := ha.eptrInv; exact ⟨_, rfl⟩
  · cases ha with
    | pin _ f b o vals _ _ _ => exact ⟨_, rfl⟩
    | p _ _ h => cases h
  · cases he

def resOne (tmps : Array Value) : ResultVar → Sem Value
  | .tmp t => pure (tmps.getD t undef)
  | .cell a t => do loadVar t (← asAddr (tmps.getD a undef))

theorem resOne_run {r : ResultVar} {ar : ARes} (hr : C.res r = some ar) {vE : Env} {tmps : Array Value} (hR : RelH C fid G H w) (hv : ∀ t ∈ Ctx.resSlots [r], VRel fid G w (lookupE vE t) (tmps.getD t undef)) {v : V} (he : resultA vE H ar = some v) :
    ∃ x, (resOne tmps r).run C.P w = .ok x w ∧ VRel fid G w v x := by
  cases r with
  | tmp t =>
    simp only [Ctx.res, Option.some.injEq] at hr
    subst hr
    simp only [resultA, Option.some.injEq] at he
    subst he
    exact ⟨_, rfl, hv t (by simp [Ctx.resSlots])⟩
  | cell a t =>
    simp only [Ctx.res] at hr
    obtain ⟨sh, hsh, rfl⟩ := Option.map_eq_some_iff.1 hr
    simp only [resultA] at he
    have ha := hv a (by simp [Ctx.resSlots])
    obtain ⟨y, hy, hu⟩ := loadA_sound hR hsh ha he
    obtain ⟨ad, had⟩ := loadA_addr ha he
    rw [had] at hy
    refine ⟨y, ?_, hu⟩
    simp only [resOne, had, asAddr, Sem.run_bind, Sem.run_pure, Result.andThen_ok]
    simpa only [Instr.loadAt, Instr.sureAddr, Sem.run_bind, Sem.run_pure, Result.andThen_ok] using hy

theorem resSlots_cons (r : ResultVar) (rs : List ResultVar) : Ctx.resSlots (r :: rs) = Ctx.resSlots [r] ++ Ctx.resSlots rs := by cases r <;> rfl

theorem results_list : ∀ {rs : List ResultVar} {ars : List ARes}, mapO C.res rs = some ars → ∀ {vE : Env} {tmps : Array Value}, RelH C fid G H w → (∀ t ∈ Ctx.resSlots rs, VRel fid G w (lookupE vE t) (tmps.getD t undef)) →
    ∀ {vs : List V}, resultsA vE H ars = some vs → ∃ xs, (rs.mapM (resOne tmps)).run C.P w = .ok xs w ∧ VRels fid G w vs xs
  | [], ars, hm, vE, tmps, hR, hv, vs, he => by
    simp only [mapO, Option.some.injEq] at hm
    subst hm
    simp only [resultsA, Option.some.injEq] at he
    subst he
    exact ⟨[], by simp, .nil⟩
  | r :: rs, ars, hm, vE, tmps, hR, hv, vs, he => by
    simp only [mapO] at hm
    split at hm
    · rename_i ar h1
      split at hm
      · rename_i ars' h2
        cases hm
        simp only [resultsA] at he
        split at he
        · rename_i v h3
          split at he
          · rename_i vs' h4
            cases he
            rw [resSlots_cons] at hv
            obtain ⟨x, hx, hvx⟩ := resOne_run h1 hR (fun t ht => hv t (List.mem_append.2 (.inl ht))) h3
            obtain ⟨xs, hxs, hvs⟩ := results_list h2 hR (fun t ht => hv t (List.mem_append.2 (.inr ht))) h4
            refine ⟨x :: xs, ?_, .cons _ _ _ _ hvx hvs⟩
            rw [List.mapM_cons, Sem.run_bind, hx, Result.andThen_ok, Sem.run_bind, hxs, Result.andThen_ok, Sem.run_pure]
          · cases he
        · cases he
      · cases hm
    · cases hm

def tupV : List V → V
  | [v] => v
  | vs => .tup vs

theorem results_run {fn : Func} {ars : List ARes} (hm : mapO C.res fn.results.toList = some ars) {vE : Env} {tmps : Array Value} (hR : RelH C fid G H w) (hv : ∀ t ∈ Ctx.resSlots fn.results.toList, VRel fid G w (lookupE vE t) (tmps.getD t undef))
    {vs : List V} (he : resultsA vE H ars = some vs) : ∃ x, (results fn tmps).run C.P w = .ok x w ∧ VRel fid G w (tupV vs) x := by
  obtain ⟨xs, hx, hvs⟩ := results_list hm hR hv he
  have e : results fn tmps = (do let vs ← fn.results.mapM (resOne tmps); pure (if h : vs.size = 1 then vs[0] else .tuple vs)) := by
    unfold results
    congr 1
  rw [e]
  refine ⟨if h : (⟨xs⟩ : Array Value).size = 1 then (⟨xs⟩ : Array Value)[0] else .tuple ⟨xs⟩, ?_, ?_⟩
  · rw [Sem.run_bind, Array.mapM_eq_mapM_toList, Sem.run_map, hx]
    simp only [Result.andThen_ok, Sem.run_pure]
  · cases hvs with
    | nil => exact .tup [] [] .nil
    | cons v x vs xs h hs =>
      cases hs with
      | nil => exact h
      | cons v2 x2 vs2 xs2 h2 hs2 =>
        have : ¬ (⟨x :: x2 :: xs2⟩ : Array Value).size = 1 := by simp
        rw [dif_neg this]
        exact .tup _ _ (.cons _ _ _ _ h (.cons _ _ _ _ h2 hs2))

end Go.Abs
/- Every call that the executor makes goes as it says. -/
namespace Go.Abs
open Go
variable {C : Ctx} {fid : Nat → Nat} {w w' : World} {G G' : Gh} {H H' : Heap} {call : CallT} {n : Nat}

theorem RelH.putFree (hR : RelH C fid G H w) {r : Nat} (hh : ∀ l h, G.β l = some h → h.b ≠ r) (hi : ¬ G.I r) (o : Obj) : RelH C fid G H (w.putObj r o) where
  obj l h e := by
    obtain ⟨o, ho, hr⟩ := hR.obj l h e
    exact ⟨o, ho, hr.mono (.refl _) (fun b hb => ⟨hb, World.putObj_heap_other fun q => hi (by rw [← q]; exact hb)⟩) (World.putObj_heap_other (hh l h e))⟩
  inj := hR.inj
  blk l h e := by rw [World.putObj_size]; exact hR.blk l h e
  imm b hb := by rw [World.putObj_size]; exact hR.imm b hb
  fzI := hR.fzI
  glob b o hg := ⟨(hR.glob b o hg).1, by rw [World.putObj_heap_other (k := b) (r := r) fun q => hi (by rw [← q]; exact (hR.glob b _ hg).1)]; exact (hR.glob b o hg).2⟩

theorem Ext.putFree {w0 : World} {G0 : Gh} {m k : Nat} (hE : Ext G0 w0 G w m k) {r : Nat} (hr : w0.heap.size ≤ r) (o : Obj) : Ext G0 w0 G (w.putObj r o) m k :=
  ⟨by rw [World.putObj_size]; exact hE.size, hE.os, hE.output, fun b hb hk => by rw [World.putObj_heap_other (by omega)]; exact hE.keep b hb hk, hE.homes, hE.newH, hE.imm, hE.newI⟩

/-- The blocks for the deferred calls are shut, one after the other. -/
theorem leaves_marks {fn : Func} {tmps : Array Value} {R : Ending → World → Prop} {w0 : World} {G0 : Gh} {m0 : Nat → Prop} {k0 : Nat} :
    ∀ (rs : List Nat) (w : World), rs.Nodup → (∀ r ∈ rs, MarkOk G w w0.heap.size r) → RelH C fid G H w → (∀ m, m0 m → Ext G0 w0 G w m k0) → (∀ v x, VRel fid G w v x → True) →
      (∀ w2, RelH C fid G H w2 → (∀ m, m0 m → Ext G0 w0 G w2 m k0) → (∀ {v : V} {x : Value}, VRel fid G w v x → VRel fid G w2 v x) → ∃ v, (results fn tmps).run C.P w2 = .ok v w2 ∧ R (.returned v) w2) →
      LeavesInM Fence.wide 0 C.P fn tmps R (rs.map markOf) .returning w
  | [], w, _, _, hR, hE, _, hfin => hfin w hR hE fun h => h
  | r :: rs, w, nd, hm, hR, hE, _, hfin => by
    have hr := hm r (by simp)
    have nd' := List.nodup_cons.1 nd
    refine ⟨by simp, .inl ⟨r, w.putObj r (.deferred none), rfl, run_takeDeferred hr.obj, ?_⟩⟩
    have hv : ∀ {v : V} {x : Value}, VRel fid G w v x → VRel fid G (w.putObj r (.deferred none)) v x := fun h =>
      h.mono (.refl _) fun b hb => ⟨hb, World.putObj_heap_other fun q => hr.imm (by rw [← q]; exact hb)⟩
    refine leaves_marks rs _ nd'.2 (fun q hq => ?_) (hR.putFree hr.home hr.imm _) (fun m hm => (hE m hm).putFree hr.base _) (fun _ _ _ => trivial) fun w2 a b c => hfin w2 a b fun h => c (hv h)
    have k := hm q (by simp [hq])
    have hne : q ≠ r := fun e => nd'.1 (e ▸ hq)
    exact ⟨k.base, by rw [World.putObj_size]; exact k.lt, by rw [World.putObj_heap_other hne]; exact k.obj, k.home, k.imm⟩

theorem zipE_look : ∀ (vs : List V) (i t : Nat), lookupE (zipE i vs) t = if i ≤ t then (vs[t - i]?).getD .undef else .undef
  | [], i, t => by simp [zipE, lookupE]
  | v :: r, i, t => by
    simp only [zipE, lookupE]
    by_cases h : i = t
    · subst h; simp
    · rw [if_neg h, zipE_look r (i + 1) t]
      by_cases h2 : i ≤ t
      · rw [if_pos h2, if_pos (by omega)]
        have : t - i = (t - (i + 1)) + 1 := by omega
        rw [this, List.getElem?_cons_succ]
      · rw [if_neg h2, if_neg (by omega)]

theorem func_inv {fn : Func} {fresh : Bool} {f : AFunc} (h : C.func fn fresh = some f) :
    ∃ c, fn.body = some c ∧ C.code (Ctx.varsOf fn) fn.ntmps c = some f.body ∧ mapO C.res fn.results.toList = some f.results ∧ (fn.name == "runtime.NumGoroutine") = false ∧ f.nslots = fn.ntmps ∧ f.fresh = fresh := by
  unfold Ctx.func at h
  split at h
  · rename_i c hb
    split at h
    · rename_i b rs h1 h2
      split at h
      · cases h
      · rename_i hn
        cases h
        exact ⟨c, hb, h1, h2, by simpa using hn, rfl, rfl⟩
    · cases h
  · cases h

theorem resSlots_vars {fn : Func} {t : Nat} (h : t ∈ Ctx.resSlots fn.results.toList) : t ∈ Ctx.varsOf fn := by
  unfold Ctx.varsOf
  rw [List.mem_eraseDups]
  simp [h]

theorem body_sound (hmix : C.P.follows .mixedOrders = true) (hC : CtxOk C fid) (hcall : CallOk C fid call) {fi : Nat} {f : AFunc} {fn : Func} (hf : C.P.funcs[fi]? = some fn) (hfn : C.func fn f.fresh = some f)
    {args : List V} {v : V} {low' : Nat} {xs : List Value} (he : callBody (exec call n) f args H = some (v, H', low')) (hR : RelH C fid G H w) (hv : VRels fid G w args xs) :
    Calls C.P fi ⟨xs⟩ w (fun e w' => ∃ x, e = .returned x ∧ Post C fid G H w v H' low' x w') := by
  obtain ⟨c, hb, hcode, hres, -, hns, -⟩ := func_inv hfn
  unfold callBody at he
  split at he
  · rename_i hlen
    have hxl := hv.length
    have hR0 : RelSt C fid (Ctx.varsOf fn) fn.ntmps G { tE := [], vE := zipE 0 args, H, low := H.length } { tmps := (⟨xs⟩ : Array Value) ++ Array.replicate (fn.ntmps - (⟨xs⟩ : Array Value).size) undef, defers := [] } w := by
      refine ⟨hR, fun t => ?_, ?_, Nat.le_refl _⟩
      · unfold lookS
        split
        · rw [zipE_look]
          simp only [Nat.zero_le, if_true, Nat.sub_zero]
          cases ha : args[t]? with
          | none => exact .undef _
          | some u =>
            obtain ⟨x, hx, hux⟩ := hv.get ha
            have hlt : t < xs.length := by
              rcases Nat.lt_or_ge t xs.length with h | h
              · exact h
              · simp [List.getElem?_eq_none h] at hx
            have : ((⟨xs⟩ : Array Value) ++ Array.replicate (fn.ntmps - (⟨xs⟩ : Array Value).size) undef).getD t undef = x := by
              rw [Array.getD_eq_getD_getElem?, Array.getElem?_append_left (by simpa using hlt)]
              simp [hx]
            rw [this]; exact hux
        · exact .undef _
      · simp only [Array.size_append, Array.size_replicate]
        show xs.length + (fn.ntmps - xs.length) = fn.ntmps
        rw [hxl, ← hns]; omega
    -- what is asked at the end
    have hend : ∀ (st : St) (G' : Gh) (a' : Act) (w' : World), FrS { tE := [], vE := zipE 0 args, H, low := H.length } st → (∃ vs, resultsA st.vE st.H f.results = some vs ∧ finish f.fresh H (tupV vs) st.H st.low = some (v, H', low')) →
        Fin C fid (Ctx.varsOf fn) fn.ntmps w.heap.size { tE := [], vE := zipE 0 args, H, low := H.length } G w st G' a' w' →
        LeavesInM Fence.wide 0 C.P fn a'.tmps (fun e w' => ∃ x, e = .returned x ∧ Post C fid G H w v H' low' x w') a'.defers .returning w' := by
      rintro st G' a' w' hfr ⟨vs, hr, hfi⟩ F
      obtain ⟨rs, hrs, nd, hm⟩ := F.marks
      rw [hrs]
      refine leaves_marks (m0 := fun m => m ≤ st.low) rs w' nd hm F.rel.rel F.ext (fun _ _ _ => trivial) fun w2 k1 k2 k3 => ?_
      obtain ⟨x, hx, hux⟩ := results_run hres k1 (fun t ht => by
        have := F.rel.env t
        rw [lookS_var (resSlots_vars ht)] at this
        exact k3 this) hr
      exact ⟨x, hx, x, rfl, finish_sound hR k1 k2 hfr.1 hux hfi⟩
    have htup : ∀ {st : St}, (match resultsA st.vE st.H f.results with | some [v] => finish f.fresh H v st.H st.low | some vs => finish f.fresh H (.tup vs) st.H st.low | none => none) = some (v, H', low') →
        ∃ vs, resultsA st.vE st.H f.results = some vs ∧ finish f.fresh H (tupV vs) st.H st.low = some (v, H', low') := fun {st} h => by
      split at h
      · rename_i u hr; exact ⟨[u], hr, h⟩
      · rename_i vs hne hr
        refine ⟨vs, hr, ?_⟩
        have : tupV vs = .tup vs := by
          cases vs with
          | nil => rfl
          | cons a r =>
            cases r with
            | nil => exact absurd rfl (hne a)
            | cons b r => rfl
        rw [this]; exact h
      · cases h
    have go : ∀ (X0 : X) (st : St), (X0 = .normal ∨ X0 = .ret) → exec call n f.body { tE := [], vE := zipE 0 args, H, low := H.length } = some (X0, st) →
        (∃ vs, resultsA st.vE st.H f.results = some vs ∧ finish f.fresh H (tupV vs) st.H st.low = some (v, H', low')) → Calls C.P fi ⟨xs⟩ w (fun e w' => ∃ x, e = .returned x ∧ Post C fid G H w v H' low' x w') := fun X0 st hX hex hfi => by
      refine (callsIn_wide (n := 0)).1 (callsIn_of_wp_marks hf hb trivial ?_)
      have hfr := exec_fr hcall.fr n _ _ _ _ (Nat.le_refl _) hex
      refine code_ok (n := n) hmix hC hcall c _ _ _ hcode _ _ _ hex G _ w none w.heap.size _ hR0 trivial (.nil _ _ _) (Nat.le_refl _) fun G' a' w' F => ?_
      have := hend st G' a' w' hfr hfi F
      rcases hX with rfl | rfl
      · exact this
      · exact this
    split at he
    · rename_i st hex; exact go _ st (.inl rfl) hex (htup he)
    · rename_i st hex; exact go _ st (.inr rfl) hex (htup he)
    · cases he
  · cases he

theorem callFunc_run {fi : Nat} {fn : Func} {c : Code} (hf : C.P.funcs[fi]? = some fn) (hb : fn.body = some c) (hn : (fn.name == "runtime.NumGoroutine") = false) (as : Array Value) :
    (callFunc fi as).run C.P w = .ok (.enter fi as) w := by
  unfold callFunc
  have hn' : ¬ fn.name = "runtime.NumGoroutine" := by simpa using hn
  simp [Sem.run_bind, Sem.run, program, hf, hb, hn', Result.andThen]

theorem callN_ok (hmix : C.P.follows .mixedOrders = true) (hC : CtxOk C fid) {tab : Nat → Option Fun} (hT : TabOk C fid tab) : ∀ (n : Nat), CallOk C fid (callN tab n)
  | 0 => ⟨callN_fr tab 0, fun _ _ _ he => by simp [callN] at he⟩
  | n + 1 => by
    have ih := callN_ok hmix hC hT n
    refine ⟨callN_fr tab (n + 1), fun {G H w f args v H' low' xf xs} hR hvf hva he => ?_⟩
    simp only [callN, callV] at he
    split at he
    · rename_i i first caps
      obtain ⟨fs, cs, hf1, hc1, hxf⟩ := hvf.fnInv
      subst hxf
      have hargs : VRels fid G w (first ++ args ++ caps) (fs ++ xs ++ cs) := (hf1.append hva).append hc1
      have hcallee : (invoke (.fn (.func i) ⟨cs⟩) ((⟨fs⟩ : Array Value) ++ ⟨xs⟩)).run C.P w = (callFunc i ⟨fs ++ xs ++ cs⟩).run C.P w := by
        simp [invoke]
      refine ⟨{ target := .fn (.func i) ⟨cs⟩, args := (⟨fs⟩ : Array Value) ++ ⟨xs⟩ }, rfl, ?_⟩
      rw [hcallee]
      split at he
      · rename_i fn0 htab
        obtain ⟨fn, hfn, hfun⟩ := hT.code i fn0 htab
        obtain ⟨c, hb, -, -, hname, -⟩ := func_inv hfun
        rw [callFunc_run hfn hb hname]
        exact ⟨body_sound hmix hC ih hfn hfun he hR hargs, fun _ _ => ⟨_, _, rfl⟩⟩
      · rename_i spec htab
        split at he
        · rename_i hp
          obtain ⟨u, hu, he⟩ := Option.map_eq_some_iff.1 he
          cases he
          refine ⟨hT.ext i spec htab hR (hargs.toP hp) hu, fun _ hna => ?_⟩
          rw [isPs_append, isPs_append] at hp
          simp [hna] at hp
        · cases he
      · cases he
    · rename_i l
      obtain ⟨h, hb, ht, rfl⟩ := hvf.yieldInv
      refine ⟨{ target := .fn (.yield h.b) #[], args := #[] ++ ⟨xs⟩ }, rfl, ?_, fun hfn => by simp [isFn] at hfn⟩
      have : (invoke (.fn (.yield h.b) #[]) (#[] ++ (⟨xs⟩ : Array Value))).run C.P w = (Instr.yield h.b ⟨xs⟩).run C.P w := by simp [invoke]
      rw [this]
      exact yield_sound hmix hC ih he hR hb hva
    · cases he

/-- A call, whole. -/
theorem calls_of_exec (hmix : C.P.follows .mixedOrders = true) (hC : CtxOk C fid) {tab : Nat → Option Fun} (hT : TabOk C fid tab) {n i : Nat} {f : AFunc} (hi : tab i = some (.code f)) {args : List V} {v : V} {low' : Nat} {xs : List Value}
    (he : callN tab n (.fn i [] []) args H = some (v, H', low')) (hR : RelH C fid G H w) (hv : VRels fid G w args xs) :
    Calls C.P i ⟨xs⟩ w (fun e w' => ∃ x, e = .returned x ∧ Post C fid G H w v H' low' x w') := by
  cases n with
  | zero => simp [callN] at he
  | succ n =>
    simp only [callN, callV, hi, List.nil_append, List.append_nil] at he
    obtain ⟨fn, hfn, hfun⟩ := hT.code i f hi
    exact body_sound hmix hC (callN_ok hmix hC hT n) hfn hfun he hR hv

end Go.Abs
/- A call that was reckoned once, from the empty heap with plain arguments to a plain answer, is a word of the table: whoever calls it so again, over whatever heap, gets this answer. -/
namespace Go.Abs
open Go
variable {C : Ctx} {fid : Nat → Nat} {w w' : World} {G G' : Gh} {H H' : Heap}

theorem RelH.apart (hR : RelH C fid G H w) : RelH C fid ⟨fun _ => Option.none, G.I⟩ [] w where
  obj _ _ e := by cases e
  inj _ _ _ _ e := by cases e
  blk _ _ e := by cases e
  imm b hb := ⟨(hR.imm b hb).1, fun _ _ e => by cases e⟩
  fzI _ _ e := by cases e
  glob := hR.glob

/-- What a call from the empty heap has left, beside a heap that it did not see. -/
theorem Post.beside (hR : RelH C fid G H w) {v : V} {l : Nat} {x : Value} (hp : isP v = true) (h : Post C fid ⟨fun _ => Option.none, G.I⟩ [] w v H' l x w') : Post C fid G H w v H H.length x w' := by
  obtain ⟨G1, hR1, he, hv⟩ := h
  have e := he 0 (Nat.zero_le _)
  have keep : ∀ b, b < w.heap.size → w'.heap[b]? = w.heap[b]? := fun b hb => e.keep b hb fun _ _ q => by cases q
  have hI : ∀ b, G.I b → G1.I b ∧ w'.heap[b]? = w.heap[b]? := fun b hb => ⟨e.imm b hb, keep b (hR.imm b hb).1⟩
  have newI : ∀ b, G1.I b → G.I b ∨ w.heap.size ≤ b := fun b hb => by
    rcases e.newI b hb with q | q | ⟨_, _, q, _⟩
    · exact .inl q
    · exact .inr q
    · cases q
  refine ⟨⟨G.β, G1.I⟩, ⟨fun l h q => ?_, hR.inj, fun l h q => Nat.lt_of_lt_of_le (hR.blk l h q) e.size, fun b hb => ⟨(hR1.imm b hb).1, fun l h q qb => ?_⟩, fun l h q qf => e.imm _ (hR.fzI l h q qf), hR1.glob⟩,
    fun m _ => ⟨e.size, e.os, e.output, fun b hb _ => keep b hb, .refl _, fun l h q => .inl ⟨h, q, .inl rfl⟩, e.imm, fun b hb => (newI b hb).imp id .inl⟩, .p _ _ (hv.toP hp)⟩
  · obtain ⟨o, ho, hr⟩ := hR.obj l h q
    exact ⟨o, ho, ORel.mono (G := G) (G' := ⟨G.β, G1.I⟩) (HomesLe.refl G.β) hI (keep _ (hR.blk l h q)) hr⟩
  · rcases newI b hb with q' | q'
    · exact (hR.imm b q').2 l h q qb
    · have := hR.blk l h q; omega

theorem ext_of_exec (hmix : C.P.follows .mixedOrders = true) (hC : CtxOk C fid) {tab : Nat → Option Fun} (hT : TabOk C fid tab) {n i : Nat} {f : AFunc} (hi : tab i = some (.code f)) {spec : List V → Option V}
    (hs : ∀ args v, spec args = some v → isP v = true ∧ ∃ H' l, callN tab n (.fn i [] []) args [] = some (v, H', l)) : ExtOk C fid i spec := by
  intro G H w args v xs hR hxs hsp
  obtain ⟨hp, H', l, he⟩ := hs args v hsp
  have hc := calls_of_exec hmix hC hT hi he hR.apart (PRels.toV hxs)
  obtain ⟨fn, hfn, hfun⟩ := hT.code i f hi
  obtain ⟨c, hb, -, -, hname, -⟩ := func_inv hfun
  rw [callFunc_run hfn hb hname]
  exact Calls.mono hc fun e w' => fun ⟨x, e1, e2⟩ => ⟨x, e1, e2.beside hR hp⟩

/-- The word of one call. -/
def memo (as : List V) (v : V) : List V → Option V := fun args => if eqVs args as = true then some v else none

theorem memo_ok (hmix : C.P.follows .mixedOrders = true) (hC : CtxOk C fid) {tab : Nat → Option Fun} (hT : TabOk C fid tab) {n i : Nat} {f : AFunc} (hi : tab i = some (.code f)) {as : List V} {v : V} {H' : Heap} {l : Nat}
    (hp : isP v = true) (he : callN tab n (.fn i [] []) as [] = some (v, H', l)) : ExtOk C fid i (memo as v) :=
  ext_of_exec hmix hC hT hi fun args u hu => by
    unfold memo at hu
    split at hu
    · rename_i hq
      cases hu
      rw [eqVs_eq _ _ hq]
      exact ⟨hp, H', l, he⟩
    · cases hu


theorem over_ok {tab : Nat → Option Fun} (hT : TabOk C fid tab) {k : Nat} {spec : List V → Option V} (hs : ExtOk C fid k spec) : TabOk C fid (over tab k spec) where
  code i f h := by
    unfold over at h
    cases e : Nat.beq i k with
    | true => rw [e] at h; cases h
    | false => rw [e] at h; exact hT.code i f h
  ext i sp h := by
    unfold over at h
    cases e : Nat.beq i k with
    | true =>
      rw [e] at h
      have h' : some (Fun.ext spec) = some (.ext sp) := h
      cases h'
      rw [Nat.eq_of_beq_eq_true e]; exact @hs
    | false => rw [e] at h; exact hT.ext i sp h

theorem memos_ok (hmix : C.P.follows .mixedOrders = true) (hC : CtxOk C fid) {tab : Nat → Option Fun} (hT : TabOk C fid tab) {n i : Nat} {f : AFunc} (hi : tab i = some (.code f)) : ∀ {l : List (List V × V)}, Reckoned tab n i l → ExtOk C fid i (memos l) := by
  intro l hl
  refine ext_of_exec hmix hC hT hi (n := n) fun args u hu => ?_
  induction l with
  | nil => cases hu
  | cons p r ih =>
    obtain ⟨as, v⟩ := p
    simp only [memos] at hu
    cases e : eqVs args as with
    | true =>
      rw [e] at hu
      have h' : some v = some u := hu
      cases h'
      rw [eqVs_eq _ _ e]
      exact ⟨hl.1.1, [], 0, hl.1.2⟩
    | false => rw [e] at hu; exact ih hl.2 hu

/-- What a table's entry must be. -/
def EntOk (C : Ctx) (fid : Nat → Nat) (i : Nat) : Fun → Prop
  | .code f => ∃ fn, C.P.funcs[i]? = some fn ∧ C.func fn f.fresh = some f
  | .ext spec => ExtOk C fid i spec

theorem TabOk.ofTree {t : FTree} (h : t.All (EntOk C fid)) : TabOk C fid t.get :=
  ⟨fun _ _ q => FTree.get_all h q, fun _ _ q => FTree.get_all h q⟩
end Go.Abs
/- A range over a map: what the machine's operations do, wherever the iterator lies. -/
namespace Go.Abs
open Go
variable {C : Ctx} {fid : Nat → Nat} {w w' : World} {G G' : Gh} {H H' : Heap}

theorem next_at {P : Program} (ty : TypeId) {r bm since c0 clk : Nat} {seen : Array Nat} {es : Array MapEntry} (hr : w.heap[r]? = some (.mapIter (some bm) since seen c0)) (hb : w.heap[bm]? = some (.map es clk))
    (hold : ∀ x ∈ es.toList, x.born < since) (hsc : since ≤ c0) :
    ((leftOf es seen).size = 0 ∧ (Instr.next (.pointer (some ⟨r, 0, none⟩)) false ty).run P w = .ok (.tuple #[.bool false]) w) ∨
    ∃ e ∈ (leftOf es seen).toList, ∃ w1 : World, w1.heap = w.heap.setIfInBounds r (.mapIter (some bm) since (seen.push e.born) clk) ∧ w1.os = w.os ∧ w1.output = w.output ∧
      (Instr.next (.pointer (some ⟨r, 0, none⟩)) false ty).run P w = .ok (.tuple #[.bool true, e.key, e.val]) w1 := by
  simp only [Instr.next, getObj, Sem.run_bind, Sem.run, hr, hb, Result.andThen, next_test_false seen es since c0 hold hsc, Bool.false_eq_true, if_false]
  unfold leftOf
  have hmem : ∀ x ∈ (Array.filter (fun e => !seen.contains e.born) es).toList, x.born < since := fun x hx => hold x (by simp at hx ⊢; exact hx.1)
  generalize Array.filter (fun e => !seen.contains e.born) es = L at hmem ⊢
  have e1 : L.filter (fun x => decide (x.born < since)) = L := Array.filter_eq_self.2 (fun x hx => by simpa using hmem x (by simpa using hx))
  have e2 : L.filter (fun x => decide (x.born ≥ since)) = #[] := by
    rw [Array.filter_eq_empty_iff]
    intro x hx
    have := hmem x (by simpa using hx)
    simp
    omega
  simp only [e1, e2, Array.append_empty]
  by_cases h0 : L.size = 0
  · left
    have : L = #[] := Array.eq_empty_of_size_eq_zero h0
    subst this
    refine ⟨rfl, ?_⟩
    simp [choose, Sem.run, Question.forced]
  · right
    have hne : L.isEmpty = false := by simp [Array.isEmpty, h0]
    simp only [hne, Bool.false_eq_true, if_false, Array.empty_append, Array.size_map]
    have hch : ∃ (j : Nat) (w1 : World), j < L.size ∧ w1.heap = w.heap ∧ w1.os = w.os ∧ w1.output = w.output ∧ (choose (Question.mapNext L.size)).run P w = .ok j w1 := by
      by_cases hf : L.size ≤ 1
      · exact ⟨0, w, by omega, rfl, rfl, rfl, by simp [choose, Sem.run, Question.forced, hf]⟩
      · exact ⟨_, w.drew, Nat.mod_lt _ (by omega), rfl, rfl, rfl, by
          simp only [choose, Sem.run, Question.forced, decide_eq_true_eq, hf, if_false, Question.cut]
          rfl⟩
    obtain ⟨j, w1, hj, a1, a2, a3, hrun⟩ := hch
    have hrlt : r < w.heap.size := by
      rcases Nat.lt_or_ge r w.heap.size with h | h
      · exact h
      · simp [Array.getElem?_eq_none h] at hr
    refine ⟨L[j], by simp, { w1 with heap := w1.heap.setIfInBounds r (.mapIter (some bm) since (seen.push L[j].born) clk) }, by rw [a1], a2, a3, ?_⟩
    have hset : ∀ (o' : Obj), (setObj r o').run P w1 = .ok () { w1 with heap := w1.heap.setIfInBounds r o' } := fun o' => by
      simp only [setObj, Sem.run]
      rw [a1, hr]
    simp only [hrun, Array.getElem?_map, Array.getElem?_eq_getElem hj, Option.map_some, Sem.run_bind, hset, Result.andThen]
    rfl

theorem entry_at {P : Program} {r bm since clk : Nat} {seen : Array Nat} {es : Array MapEntry} {e : MapEntry} (hr : w.heap[r]? = some (.mapIter (some bm) since (seen.push e.born) clk)) (hb : w.heap[bm]? = some (.map es clk))
    (he : e ∈ es.toList) (hn : (es.toList.map (·.born)).Nodup) :
    (Instr.entry (.pointer (some ⟨r, 0, none⟩))).run P w = .ok (.tuple #[e.key, e.val]) w := by
  have hf : es.find? (·.born == e.born) = some e := by rw [← Array.find?_toList]; exact find_born e es.toList hn he
  simp only [Instr.entry, getObj, Sem.run_bind, Sem.run, hr, hb, Result.andThen, Array.back?_push, bne_self_eq_false, Bool.false_eq_true, if_false, hf]
  rfl

section
variable {vars : List Nat} {N : Nat} {ops : Array Oper}

/-- An operation met by hand. -/
theorem manual_op {j : Nat} {o : Oper} {a : Act} {K : Act → World → Prop} {Q : Exit → Act → World → Prop} {ro : Option Nat} (ho : ops[j]? = some o) (hg : o.guard = none) (hnd : ∀ c, o.op ≠ .defer c) {x : Value} {w1 : World}
    (hrun : (execOp a.eval o).run C.P w = .ok (.value x) w1) (hK : K (a.put o.dst x) w1) : wpOpIn (FW ro) 0 C.P ops Q j K a w := by
  unfold wpOpIn
  rw [ho]
  have hw : Region.wanted o (yielded ops a.tmps) = true := by unfold Region.wanted; rw [hg]
  simp only [hw, if_true]
  refine ⟨fun _ _ => trivial, ?_⟩
  rw [Oper.semAt_eq _ _ _ hnd, hrun]
  exact hK

theorem RelSt.put {st : St} {a : Act} (h : RelSt C fid vars N G st a w) {t : Nat} (hN : t < N) {v : V} {x : Value} (hv : VRel fid G w v x) :
    RelSt C fid vars N G (st.put (some (t, vars.contains t)) v) (a.put (some t) x) w := by
  have hp := put_H st (some (t, vars.contains t)) v
  refine ⟨by rw [hp.1]; exact h.rel, fun s => ?_, by rw [put_size]; exact h.size, by rw [hp.1, hp.2.1]; exact h.low⟩
  rw [getD_put _ _ _ _ (by rw [h.size]; exact hN), lookS_put]
  by_cases e : s = t
  · rw [if_pos e, if_pos e]; exact hv
  · rw [if_neg e, if_neg e]; exact h.env s
end
end Go.Abs
