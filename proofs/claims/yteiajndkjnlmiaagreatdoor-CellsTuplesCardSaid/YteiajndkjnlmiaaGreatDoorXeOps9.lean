/- append and copy. -/
import Derived.Test.YteiajndkjnlmiaaGreatDoorXeOps8
set_option linter.unusedVariables false
set_option linter.unusedSimpArgs false
namespace Go.Abs
open Go
variable {C : Ctx} {fid : Nat → Nat} {w w' : World} {G G' : Gh} {H : Heap}
variable {vars : List Nat} {ev : Opd → V} {ρ : Operand → Value} {low low' : Nat} {v : V} {H' : Heap} {pos : String} {aop : AOp} {o : Oper}

theorem append_fits {P : Program} {t u ty e e' : TypeId} {i : TypeInfo} (hd : P.underlying t = some (.slice e)) (hu : P.underlying u = some (.slice e')) (hi : P.info? e = some i) {base xb : Option Addr} {sLen sCap n xc : Nat} {news : List Value}
    (hx : (Builtin.firstCells i.size n (.slice xb n xc)).run P w = .ok news.toArray w) (hfit : sLen + n ≤ sCap) :
    (Builtin.append_ #[t, u] ty #[.slice base sLen sCap, .slice xb n xc]).run P w =
      ((match base with | some a => storeCells (a.add (sLen * i.size)) news | none => pure ()).run P w).andThen fun _ w' => .ok (.slice base (sLen + n) sCap) w' := by
  cases base with
  | none => simp [Builtin.append_, run_underlying hd, run_underlying hu, sizeOf, typeInfo, hi, Builtin.lenOf, hfit, hx]
  | some a => simp [Builtin.append_, run_underlying hd, run_underlying hu, sizeOf, typeInfo, hi, Builtin.lenOf, hfit, hx]

theorem append_grows {P : Program} {t u ty e e' : TypeId} {i : TypeInfo} {zv : Value} (hd : P.underlying t = some (.slice e)) (hu : P.underlying u = some (.slice e')) (hi : P.info? e = some i) (hz : i.zero = some zv)
    {base xb : Option Addr} {sLen sCap n xc : Nat} {olds news : List Value}
    (hx : (Builtin.firstCells i.size n (.slice xb n xc)).run P w.drew = .ok news.toArray w.drew) (ho : (Builtin.firstCells i.size sLen (.slice base sLen sCap)).run P w.drew = .ok olds.toArray w.drew)
    (hfit : sCap < sLen + n) (hb : (sLen + n) * (i.bytes + 1) ≤ 1099511627776) :
    ∃ newCap, sLen + n ≤ newCap ∧ (Builtin.append_ #[t, u] ty #[.slice base sLen sCap, .slice xb n xc]).run P w =
      .ok (.slice (some ⟨w.heap.size, 0, none⟩) (sLen + n) newCap) (w.drew.alloc (.cells (olds.toArray ++ news.toArray ++ Builtin.zeroCells zv.cells (newCap - (sLen + n))) e)) := by
  have h1 : ¬ sLen + n ≤ sCap := by omega
  have hm : (sLen + n) * i.bytes + (sLen + n) = (sLen + n) * (i.bytes + 1) := by rw [Nat.mul_succ]
  have h2 : ¬ (((sLen + n : Nat) : Int) > 9223372036854775807) := by omega
  have h3 := growslice_fits (need := sLen + n) (old := sCap) (bytes := i.bytes) hfit (by omega)
  have h4 : ¬ (281474976710656 < Builtin.nextslicecap (sLen + n) sCap * i.bytes) := by omega
  refine ⟨sLen + n + (w.tape w.drawn (.appendCap (sLen + n) sCap e)) % (9223372036854775808 - (sLen + n)), Nat.le_add_right _ _, ?_⟩
  have h2' : ¬ (9223372036854775807 < (sLen : Int) + (n : Int)) := by omega
  simp [Builtin.append_, run_underlying hd, run_underlying hu, sizeOf, typeInfo, hi, Builtin.lenOf, h1, h2', h4, Question.forced, Question.cut, hx, ho, zeroValue, hz, newRow]
  congr 2
  apply Array.ext'
  simp

theorem zeroCells_size (z : Array Value) (n : Nat) : (Builtin.zeroCells z n).size = n * z.size := by simp [Builtin.zeroCells]

theorem cellsOk_oneCell {xs : List V} {vals : List Value} (h : VRels fid G w xs vals) (hc : cellsOk xs = true) : ∀ x ∈ vals, x.oneCell' = true := oneCells_of_rel h hc

/-- A new row out of nothing. -/
theorem Did.newRow (hR : RelH C fid G H w) {low : Nat} {r : Result Next} {es : Nat} {ds : List V} {c : Array Value} {vals rest : List Value} {e : TypeId} {cap : Nat} (hes : 0 < es) (hn : 0 < ds.length) (hu : ∀ d ∈ ds, (cellsV d).length = es)
    (hc : c.toList = vals ++ rest) (hv : VRels fid G w (ds.flatMap cellsV) vals) (hcap : cap * es ≤ c.size) (hle : ds.length ≤ cap)
    (hr : r = .ok (.value (.slice (some ⟨w.heap.size, 0, none⟩) ds.length cap)) (w.drew.alloc (.cells c e))) :
    Did C fid G H w low r (.sref H.length es 0 ds.length ds.length) (H ++ [.row es ds false]) low := by
  have hR' : RelH C fid G H w.drew := hR.sameHeap rfl
  have hE : ∀ m n, Ext G w G w.drew m n := fun m n => Ext.sameHeap (w := w) (w' := w.drew) rfl rfl rfl rfl m n
  have hv' := hv.ext hR (hE 0 0)
  refine ⟨_, _, ⟨upd G.β H.length ⟨w.drew.heap.size, ds.length, c.size, false⟩, G.I⟩, .inl hr, hR'.push _ _ ds.length c.size (rowObj hR' hes hn hu hc hv'), fun m _ => (hE m H.length).trans (Ext.push hR' _ _ _ m), ?_, Nat.le_refl _, by simp⟩
  exact .sref _ es 0 _ _ ⟨w.drew.heap.size, ds.length, c.size, false⟩ _ _ _ (upd_same _ _ _) (Nat.le_refl _) (fun _ => ⟨by simp, rfl, by rw [Nat.zero_add]; exact hcap, hle⟩)

theorem s_append (hR : RelH C fid G H w) (hρ : OpdRel C fid vars G w ev ρ) {a b : Operand} {t u e e' : TypeId} {i : TypeInfo} {zv : Value} {args : Array Operand} {ts : Array TypeId} (ho : o.op = .call { callee := .builtin .append, args, argTypes := ts })
    (ha : args = #[a, b]) (ht : ts = #[t, u]) {aa ab : Opd} (h1 : C.opd vars a = some aa) (h2 : C.opd vars b = some ab) (hd : C.P.underlying t = some (.slice e)) (hu : C.P.underlying u = some (.slice e')) (hi : C.P.info? e = some i)
    (hz : i.zero = some zv) (hzs : zv.cells.size = i.size) (hpos : 0 < i.size) (he : step ev H low (.append i.size i.bytes aa ab) = some (v, H', low')) : Did C fid G H w low ((execOp ρ o).run C.P w) v H' low' := by
  subst ha; subst ht
  have hx := hρ a aa h1
  have hy := hρ b ab h2
  have hrun : (execOp ρ o).run C.P w = ((Builtin.append_ #[t, u] o.type #[ρ a, ρ b]).run C.P w).andThen fun z w' => .ok (.value z) w' := by
    rw [s_builtin_run ho]
    simp only [builtin, Sem.run_bind, List.map_toArray, List.map_cons, List.map_nil]
    rfl
  simp only [step] at he
  split at he
  · rename_i xs hxs
    obtain ⟨yad, ycap, hyv, hyc⟩ := elems_sound hR hy hxs
    split at he
    · rename_i xs' H1 low1 hf
      -- the news in memory
      have news : ∃ vals G1, Froze C fid G H w low G1 H1 low1 ∧ VRels fid G1 w (xs'.flatMap cellsV) vals ∧ xs'.length = xs.length ∧ (∀ d ∈ xs', (cellsV d).length = i.size) ∧
          ∀ w'', w''.heap = w.heap → (Builtin.firstCells i.size xs.length (.slice yad xs.length ycap)).run C.P w'' = .ok vals.toArray w'' := by
        by_cases hne : xs = []
        · subst hne
          simp only [freezeVs, Option.some.injEq, Prod.mk.injEq] at hf
          obtain ⟨rfl, rfl, rfl⟩ := hf
          refine ⟨[], G, .refl hR _, .nil, rfl, by simp, fun w'' _ => ?_⟩
          cases yad with
          | none => simp [Builtin.firstCells]
          | some ad => simp [Builtin.firstCells, loadCells, loadCellsFrom]
        · obtain ⟨bb, off, vals, rfl, hcells, hrel, hu'⟩ := hyc hne
          obtain ⟨G1, f1, k1, l1, u1⟩ := freezeVs_cells hR hrel hf
          refine ⟨vals, G1, f1, k1, l1, u1 _ hu', fun w'' hw => ?_⟩
          exact firstCells_run (fun j x hj => by rw [cell_of_block (w := w) (w' := w'') (by rw [hw])]; exact hcells j x hj) (by rw [hrel.length, flat_length hu'])
      obtain ⟨vals, G1, f1, k1, l1, u1, hfirst⟩ := news
      rw [hyv] at hrun
      have hx1 := hx.ext hR (f1.ext 0 (Nat.zero_le _))
      refine Did.afterFreeze f1 ?_
      have hR1 := f1.rel
      split at he
      · -- nothing is appended
        rename_i hemp
        have hxs0 : xs = [] := by
          have : xs' = [] := by simpa using hemp
          rw [this] at l1; exact List.length_eq_zero_iff.1 l1.symm
        have hv0 : vals = [] := by
          have := k1.length
          have e0 : xs' = [] := by simpa using hemp
          rw [e0] at this; exact List.length_eq_zero_iff.1 (by simpa using this)
        subst hxs0; subst hv0
        have same : ∀ base n cap, ρ a = .slice base n cap → n ≤ cap → (execOp ρ o).run C.P w = .ok (.value (ρ a)) w := by
          intro base n cap hs hle
          rw [hrun, hs, append_fits (P := C.P) hd hu hi (hfirst w rfl) (by simpa using hle)]
          cases base <;> simp [storeCells]
        split at he
        · rename_i e1
          simp only [Option.some.injEq, Prod.mk.injEq] at he
          obtain ⟨rfl, rfl, rfl⟩ := he
          rw [e1] at hx1
          exact .same hR1 (same _ _ _ hx1.nil0Inv (Nat.le_refl _)) hx1
        · rename_i e1
          simp only [Option.some.injEq, Prod.mk.injEq] at he
          obtain ⟨rfl, rfl, rfl⟩ := he
          rw [e1] at hx1
          obtain ⟨ad, hxx⟩ := hx1.empInv
          exact .same hR1 (same _ _ _ hxx (Nat.le_refl _)) hx1
        · rename_i es' ds e1
          simp only [Option.some.injEq, Prod.mk.injEq] at he
          obtain ⟨rfl, rfl, rfl⟩ := he
          rw [e1] at hx1
          obtain ⟨ad, cap, hxx, hcap, -⟩ := hx1.listInv
          exact .same hR1 (same _ _ _ hxx hcap) hx1
        · rename_i l es' off len tag e1
          rw [e1] at hx1
          split at he
          · rename_i es'' ds fz hl
            split at he
            · rename_i htag
              simp only [Option.some.injEq, Prod.mk.injEq] at he
              obtain ⟨rfl, rfl, rfl⟩ := he
              obtain ⟨h0, ad, nn, cap, hbb, hle0, had, hxx⟩ := hx1.srefInv
              obtain ⟨ob, hob, hr⟩ := hR1.obj l h0 hbb
              rw [hl] at hob; cases hob
              obtain ⟨rfl, rfl, -, hlc⟩ := had (hr.1.trans htag)
              exact .same hR1 (same _ _ _ hxx hlc) hx1
            · cases he
          · cases he
        · cases he
      · rename_i hemp
        have hne : 0 < xs'.length := by
          rcases Nat.eq_zero_or_pos xs'.length with q | q
          · exact absurd (by simpa using List.length_eq_zero_iff.1 q) hemp
          · exact q
        split at he
        · cases he
        · rename_i hok
          have hok : cellsOk (xs'.flatMap cellsV) = true := by simpa using hok
          have h1c := cellsOk_oneCell k1 hok
          have hvl : vals.length = xs.length * i.size := by rw [k1.length, flat_length u1, l1]
          -- a new row out of an empty slice
          have fresh : ∀ base, ρ a = .slice base 0 0 → xs'.length * (i.bytes + 1) ≤ 1099511627776 → Did C fid G1 H1 w low1 ((execOp ρ o).run C.P w) (.sref H1.length i.size 0 xs'.length xs'.length) (H1 ++ [.row i.size xs' false]) low1 := by
            intro base hs hb
            have hold : (Builtin.firstCells i.size 0 (.slice base 0 0)).run C.P w.drew = .ok ([] : List Value).toArray w.drew := by
              cases base <;> simp [Builtin.firstCells, loadCells, loadCellsFrom]
            obtain ⟨newCap, hcap, hrr⟩ := append_grows (P := C.P) (t := t) (u := u) (ty := o.type) hd hu hi hz (hfirst w.drew rfl) hold (by omega) (by rw [Nat.zero_add, ← l1]; exact hb)
            rw [Nat.zero_add, ← l1] at hrr hcap
            refine Did.newRow hR1 (cap := newCap) (e := e) hpos hne u1 (vals := vals) (rest := (Builtin.zeroCells zv.cells (newCap - xs'.length)).toList) ?_ k1 ?_ hcap (by rw [hrun, hs, ← l1, hrr]; rfl)
            · simp
            · simp only [Array.size_append, List.size_toArray, List.length_nil, Nat.zero_add, zeroCells_size, hvl, hzs, ← l1, ← Nat.add_mul]
              rw [Nat.add_sub_cancel' hcap]; exact Nat.le_refl _
          split at he
          · rename_i e1
            split at he
            · rename_i hb
              simp only [Option.some.injEq, Prod.mk.injEq] at he
              obtain ⟨rfl, rfl, rfl⟩ := he
              rw [e1] at hx1
              exact fresh _ hx1.nil0Inv hb
            · cases he
          · rename_i e1
            split at he
            · rename_i hb
              simp only [Option.some.injEq, Prod.mk.injEq] at he
              obtain ⟨rfl, rfl, rfl⟩ := he
              rw [e1] at hx1
              obtain ⟨ad, hxx⟩ := hx1.empInv
              exact fresh _ hxx hb
            · cases he
          · rename_i l es' off len tag e1
            rw [e1] at hx1
            split at he
            · rename_i es'' ds hl
              split at he
              · rename_i hcond
                obtain ⟨rfl, rfl, htag, rfl, rfl, hb⟩ := hcond
                simp only [Option.some.injEq, Prod.mk.injEq] at he
                obtain ⟨rfl, rfl, rfl⟩ := he
                obtain ⟨h0, ad, nn, cap, hbb, hle0, had, hxx⟩ := hx1.srefInv
                obtain ⟨ob, hob, hr⟩ := hR1.obj l h0 hbb
                rw [hl] at hob; cases hob
                obtain ⟨htg, hdpos, hfz, hes, huu, c, ee, ovals, rest, hc, hcs, hcv, hrel⟩ := hr
                obtain ⟨rfl, rfl, hcsz, hlc⟩ := had (htg.trans htag)
                rw [Nat.zero_mul] at hxx
                rw [Nat.zero_add] at hcsz
                have hdl : ds.length = nn := htag
                have hol : ovals.length = nn * i.size := by rw [hrel.length, flat_length huu, hdl]
                have hcl : c.size = ovals.length + rest.length := by rw [← Array.length_toList, hcv, List.length_append]
                have hu2 : ∀ d ∈ ds ++ xs', (cellsV d).length = i.size := fun d hd => by
                  rcases List.mem_append.1 hd with q | q
                  · exact huu d q
                  · exact u1 d q
                have hrl2 : VRels fid G1 w ((ds ++ xs').flatMap cellsV) (ovals ++ vals) := by rw [List.flatMap_append]; exact hrel.append k1
                by_cases hfit : nn + xs.length ≤ cap
                · -- in place
                  have hmul : (nn + xs.length) * i.size ≤ c.size := Nat.le_trans (Nat.mul_le_mul_right _ hfit) (by rw [← hcs]; exact hcsz)
                  rw [Nat.add_mul] at hmul
                  have hst := run_storeCells_at C.P h0.b (nn * i.size) ee vals 0 c w hc (by omega) h1c
                  have hval : (execOp ρ o).run C.P w = .ok (.value (.slice (some ⟨h0.b, 0, none⟩) (nn + xs.length) cap)) (w.setRow h0.b (c.toList.take (nn * i.size) ++ vals ++ c.toList.drop (nn * i.size + vals.length)).toArray) := by
                    rw [hrun, hxx, append_fits (P := C.P) hd hu hi (hfirst w rfl) hfit]
                    simp only [Addr.add_lit, Nat.zero_add]
                    simp only [Nat.add_zero] at hst
                    rw [hst]; rfl
                  have hx' : Ext G1 w ⟨upd G1.β l { h0 with tag := nn + xs'.length }, G1.I⟩ (w.setRow h0.b (c.toList.take (nn * i.size) ++ vals ++ c.toList.drop (nn * i.size + vals.length)).toArray) l H1.length :=
                    Ext.write hR1 hbb hfz rfl (by simp only; omega) (fun q => by omega) rfl (setRow_size _ _) (fun b hne => setRow_other hne _) rfl rfl rfl
                  refine ⟨_, _, _, .inl hval, RelH.write hR1 hbb hfz (h' := { h0 with tag := nn + xs'.length }) rfl hfz (by simp only; omega) (fun q => by omega) rfl (setRow_size _ _) (fun b hne => setRow_other hne _) (.row i.size (ds ++ xs') false) ?_,
                    fun m hm => hx'.le (Nat.le_trans hm (Nat.min_le_right _ _)) (Nat.le_refl _), ?_, Nat.min_le_left _ _, by simp⟩
                  · refine ⟨by simp [hdl], by simp; omega, hfz, hes, hu2, _, ee, ovals ++ vals, rest.drop vals.length, setRow_heap w h0.b c _ ee _ hc, ?_, ?_, hrl2.ext hR1 hx'⟩
                    · show h0.csz = _
                      rw [hcs]
                      simp only [List.size_toArray, List.length_append, List.length_take, List.length_drop, Array.length_toList]
                      omega
                    · rw [List.toList_toArray, hcv, ← hol, List.take_left, List.drop_append, List.append_assoc, List.append_assoc]
                      congr 2
                      rw [List.drop_of_length_le (by omega), List.nil_append]
                      congr 1; omega
                  · rw [← l1]
                    exact .sref l i.size 0 _ _ { h0 with tag := nn + xs'.length } _ _ _ (upd_same _ _ _) (Nat.le_refl _) (fun _ => ⟨by simp, rfl, by rw [Nat.zero_add]; exact hcsz, by omega⟩)
                · -- into a new block
                  have hold : (Builtin.firstCells i.size nn (.slice (some ⟨h0.b, 0, none⟩) nn cap)).run C.P w.drew = .ok ovals.toArray w.drew :=
                    firstCells_run (CellsAt.of_row (w := w.drew) hc hcv) hol
                  obtain ⟨newCap, hcap, hrr⟩ := append_grows (P := C.P) (t := t) (u := u) (ty := o.type) hd hu hi hz (hfirst w.drew rfl) hold (by omega) (by rw [← l1]; exact hb)
                  have hR2 : RelH C fid G1 H1 w.drew := hR1.sameHeap rfl
                  have hE : ∀ m n, Ext G1 w G1 w.drew m n := fun m n => Ext.sameHeap (w := w) (w' := w.drew) rfl rfl rfl rfl m n
                  obtain ⟨r1, r2⟩ := RelH.move hR2 hbb hfz (.cells (ovals.toArray ++ vals.toArray ++ Builtin.zeroCells zv.cells (newCap - (nn + xs.length))) e) (nn + xs'.length)
                    (ovals.toArray ++ vals.toArray ++ Builtin.zeroCells zv.cells (newCap - (nn + xs.length))).size (by omega) (by omega) (.row i.size (ds ++ xs') false)
                    ⟨by simp [hdl], by simp; omega, rfl, hes, hu2, _, e, ovals ++ vals, (Builtin.zeroCells zv.cells (newCap - (nn + xs.length))).toList, alloc_new _ _, rfl, by simp, VRels.mono (G := G1) (w := w.drew) (G' := ⟨upd G1.β l ⟨w.drew.heap.size, nn + xs'.length, (ovals.toArray ++ vals.toArray ++ Builtin.zeroCells zv.cells (newCap - (nn + xs.length))).size, false⟩, G1.I⟩) (by
                      intro x hh e0
                      by_cases hxl : x = l
                      · subst hxl; rw [hbb] at e0; cases e0
                        exact ⟨_, upd_same _ _ _, by simp only; omega, fun q => by omega, fun q => by simp only at q; omega, fun q => by rw [hfz] at q; cases q⟩
                      · exact ⟨hh, by simp only [upd_other hxl]; exact e0, Nat.le_refl _, id, fun _ => ⟨rfl, rfl⟩, fun _ => rfl⟩) (fun b hi' => ⟨hi', alloc_old (w := w.drew) (hR2.imm b hi').1⟩) (hrl2.ext hR1 (hE 0 0))⟩
                  refine ⟨_, _, _, .inl (by rw [hrun, hxx, hrr]; rfl), r1, fun m hm => (hE m H1.length).trans (r2.le (Nat.le_trans hm (Nat.min_le_right _ _)) (Nat.le_refl _)), ?_, Nat.min_le_left _ _, by simp⟩
                  rw [← l1]
                  refine .sref l i.size 0 _ _ ⟨w.drew.heap.size, nn + xs'.length, _, false⟩ _ _ _ (upd_same _ _ _) (Nat.le_refl _) (fun _ => ⟨by simp, rfl, ?_, by omega⟩)
                  simp only [Array.size_append, List.size_toArray, zeroCells_size, hvl, hol, hzs, ← Nat.add_mul, Nat.zero_add]
                  have e9 : nn + xs.length + (newCap - (nn + xs'.length)) = newCap := by omega
                  rw [e9]; exact Nat.le_refl _
              · cases he
            · cases he
          · cases he
    · cases he
  · cases he

end Go.Abs
