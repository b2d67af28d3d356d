/- Texts of this claim, joined and written short by a program. -/
import Derived.Test.YtjgngmpmjbkbpaaGreatDoorP06
import Derived.Test.YtjgngmpmjbkbpaaGreatDoorP00
set_option linter.unusedVariables false
set_option linter.unusedSimpArgs false
set_option linter.unusedSectionVars false
namespace Go.Abs
open Go
variable {C : Ctx} {fid : Nat -> Nat} {w w' : World} {G G' : bT} {H : Heap}
variable {vars : List Nat} {ag : aj -> V} {ρ : Operand -> Value} {low low' : Nat} {v : V} {H' : Heap} {pos : String} {c7 : cH} {o : Oper}
theorem Q8 {P : Program} {t u ty e e' : TypeId} {i : TypeInfo} (hd : P.underlying t = some (.slice e)) (hu : P.underlying u = some (.slice e')) (hi : P.info? e = some i) {base oq : Option Addr} {eA jI n sk : Nat} {news : List Value}
  (hx : (Builtin.firstCells i.size n (.slice oq n sk)).run P w = .ok news.toArray w) (lf : eA + n <= jI) :
  (Builtin.append_ #[t, u] ty #[.slice base eA jI, .slice oq n sk]).run P w =
    ((match base with | some a => storeCells (a.add (eA * i.size)) news | none => pure ()).run P w).andThen fun _ w' => .ok (.slice base (eA + n) jI) w' := by
 cases base with
 | none => simp [Builtin.append_, run_underlying hd, run_underlying hu, sizeOf, typeInfo, hi, Builtin.lenOf, lf, hx]
 | some a => simp [Builtin.append_, run_underlying hd, run_underlying hu, sizeOf, typeInfo, hi, Builtin.lenOf, lf, hx]
theorem Q9 {P : Program} {t u ty e e' : TypeId} {i : TypeInfo} {cF : Value} (hd : P.underlying t = some (.slice e)) (hu : P.underlying u = some (.slice e')) (hi : P.info? e = some i) (aP : i.zero = some cF)
  {base oq : Option Addr} {eA jI n sk : Nat} {fc news : List Value}
  (hx : (Builtin.firstCells i.size n (.slice oq n sk)).run P w.drew = .ok news.toArray w.drew) (ho : (Builtin.firstCells i.size eA (.slice base eA jI)).run P w.drew = .ok fc.toArray w.drew)
  (lf : jI < eA + n) (hb : (eA + n) * (i.bytes + 1) <= 1099511627776) :
  ∃ h6, eA + n <= h6 /\ (Builtin.append_ #[t, u] ty #[.slice base eA jI, .slice oq n sk]).run P w =
    .ok (.slice (some ⟨w.heap.size, 0, none⟩) (eA + n) h6) (w.drew.alloc (.cells (fc.toArray ++ news.toArray ++ Builtin.zeroCells cF.cells (h6 - (eA + n))) e)) := by
 have h1 : ¬ eA + n <= jI := by omega
 have hm : (eA + n) * i.bytes + (eA + n) = (eA + n) * (i.bytes + 1) := by rw [Nat.mul_succ]
 have h2 : ¬ (((eA + n : Nat) : Int) > 9223372036854775807) := by omega
 have av := growslice_fits (need := eA + n) (old := jI) (bytes := i.bytes) lf (by omega)
 have bc : ¬ (281474976710656 < Builtin.nextslicecap (eA + n) jI * i.bytes) := by omega
 refine ⟨eA + n + (w.tape w.drawn (.appendCap (eA + n) jI e)) % (9223372036854775808 - (eA + n)), JO _ _, ?_⟩
 have vB : ¬ (9223372036854775807 < (eA : Int) + (n : Int)) := by omega
 simp [Builtin.append_, run_underlying hd, run_underlying hu, sizeOf, typeInfo, hi, Builtin.lenOf, h1, vB, bc, Question.forced, Question.cut, hx, ho, zeroValue, aP, newRow]
 congr 2
 apply Array.ext'
 simp
theorem FO (z : Array Value) (n : Nat) : (Builtin.zeroCells z n).size = n * z.size := by simp [Builtin.zeroCells]
theorem Ra {xs : List V} {vals : List Value} (h : a6 fid G w xs vals) (hc : b4 xs = true) : ∀ x ∈ vals, x.oneCell' = true := FG h hc
theorem dh.newRow (aa : bb C fid G H w) {low : Nat} {r : Result Next} {es : Nat} {ds : List V} {c : Array Value} {vals rest : List Value} {e : TypeId} {cap : Nat} (fL : 0 < es) (hn : 0 < ds.length) (hu : ∀ d ∈ ds, (aG d).length = es)
  (hc : c.toList = vals ++ rest) (af : a6 fid G w (ds.flatMap aG) vals) (hz : cap * es <= c.size) (hle : ds.length <= cap)
  (hr : r = .ok (.value (.slice (some ⟨w.heap.size, 0, none⟩) ds.length cap)) (w.drew.alloc (.cells c e))) :
  dh C fid G H w low r (.cQ H.length es 0 ds.length ds.length) (H ++ [.row es ds false]) low := by
 have lT : bb C fid G H w.drew := aa.la rfl
 have dw : ∀ m n, Ext G w G w.drew m n := fun m n => Ext.la (w := w) (w' := w.drew) rfl rfl rfl m n
 have aa8 := af.ext aa (dw 0 0)
 refine ⟨_, _, ⟨cg G.β H.length ⟨w.drew.heap.size, ds.length, c.size, false⟩, G.I⟩, .inl hr, lT.push _ _ ds.length c.size (KS lT fL hn hu hc aa8), fun m _ => (dw m H.length).trans (Ext.push lT _ _ _ m), ?_, aK _, by simp⟩
 exact .cQ _ es 0 _ _ ⟨w.drew.heap.size, ds.length, c.size, false⟩ _ _ _ (de _ _ _) (aK _) (fun _ => ⟨by simp, rfl, by rw [eF]; exact hz, hle⟩)
theorem aa9 (aa : bb C fid G H w) (aM : fh C fid vars G w ag ρ) {a b : Operand} {t u e e' : TypeId} {i : TypeInfo} {cF : Value} {args : Array Operand} {ts : Array TypeId} (ho : o.op = .call { callee := .builtin .append, args, argTypes := ts })
  (ao : args = #[a, b]) (ht : ts = #[t, u]) {mP jJ : aj} (h1 : C.bV vars a = some mP) (h2 : C.bV vars b = some jJ) (hd : C.P.underlying t = some (.slice e)) (hu : C.P.underlying u = some (.slice e')) (hi : C.P.info? e = some i)
  (aP : i.zero = some cF) (tP : cF.cells.size = i.size) (jE : 0 < i.size) (he : step ag H low (.append i.size i.bytes mP jJ) = some (v, H', low')) : dh C fid G H w low ((execOp ρ o).run C.P w) v H' low' := by
 subst ao; subst ht
 have hx := aM a mP h1
 have hy := aM b jJ h2
 have cf : (execOp ρ o).run C.P w = ((Builtin.append_ #[t, u] o.type #[ρ a, ρ b]).run C.P w).andThen fun z w' => .ok (.value z) w' := by
  rw [xl ho]
  simp only [builtin, Sem.run_bind, JP, eD, n5]
  rfl
 simp only [step] at he
 split at he
 · rename_i xs eJ
   obtain ⟨xo, FP, B7, FQ⟩ := FN aa hy eJ
   split at he
   · rename_i eH H1 b0 ae
     have news : ∃ vals ax, kI C fid G H w low ax H1 b0 /\ a6 fid ax w (eH.flatMap aG) vals /\ eH.length = xs.length /\ (∀ d ∈ eH, (aG d).length = i.size) /\
       ∀ gY, gY.heap = w.heap -> (Builtin.firstCells i.size xs.length (.slice xo xs.length FP)).run C.P gY = .ok vals.toArray gY := by
      by_cases bA : xs = []
      · subst bA
        simp only [fe, aA, bw] at ae
        obtain ⟨rfl, rfl, rfl⟩ := ae
        refine ⟨[], G, .refl aa _, .nil, rfl, by simp, fun gY _ => ?_⟩
        cases xo with
        | none => simp [Builtin.firstCells]
        | some df => simp [Builtin.firstCells, loadCells, loadCellsFrom]
      · obtain ⟨zN, off, vals, rfl, xf, fg, mL⟩ := FQ bA
        obtain ⟨ax, f1, cn, b2, kJ⟩ := Q7 aa fg ae
        refine ⟨vals, ax, f1, cn, b2, kJ _ mL, fun gY hw => ?_⟩
        exact KT (fun j x hj => by rw [Qq (w := w) (w' := gY) (by rw [hw])]; exact xf j x hj) (by rw [fg.length, mK mL])
     obtain ⟨vals, ax, f1, cn, b2, kJ, vC⟩ := news
     rw [B7] at cf
     have kn := hx.ext aa (f1.ext 0 (cx _))
     refine dh.zH f1 ?_
     have gG := f1.rel
     split at he
     ·
      rename_i tQ
      have aba : xs = [] := by
       have : eH = [] := by simpa using tQ
       rw [this] at b2; exact JE.1 b2.symm
      have B8 : vals = [] := by
       have := cn.length
       have ez : eH = [] := by simpa using tQ
       rw [ez] at this; exact JE.1 (by simpa using this)
      subst aba; subst B8
      have same : ∀ base n cap, ρ a = .slice base n cap -> n <= cap -> (execOp ρ o).run C.P w = .ok (.value (ρ a)) w := by
       intro base n cap hs hle
       rw [cf, hs, Q8 (P := C.P) hd hu hi (vC w rfl) (by simpa using hle)]
       cases base <;> simp [storeCells]
      split at he
      · rename_i ah
        simp only [aA, bw] at he
        obtain ⟨rfl, rfl, rfl⟩ := he
        rw [ah] at kn
        exact .same gG (same _ _ _ kn.jF (aK _)) kn
      · rename_i ah
        simp only [aA, bw] at he
        obtain ⟨rfl, rfl, rfl⟩ := he
        rw [ah] at kn
        obtain ⟨df, ef⟩ := kn.qY
        exact .same gG (same _ _ _ ef (aK _)) kn
      · rename_i bC ds ah
        simp only [aA, bw] at he
        obtain ⟨rfl, rfl, rfl⟩ := he
        rw [ah] at kn
        obtain ⟨df, cap, ef, hz, -⟩ := kn.vy
        exact .same gG (same _ _ _ ef hz) kn
      · rename_i l bC off len tag ah
        rw [ah] at kn
        split at he
        · rename_i eQ ds dW hl
          split at he
          · rename_i fK
            simp only [aA, bw] at he
            obtain ⟨rfl, rfl, rfl⟩ := he
            obtain ⟨h0, df, cL, cap, du, qX, jn, ef⟩ := kn.o7
            obtain ⟨aT, eS, hr⟩ := gG.obj l h0 du
            rw [hl] at eS; cases eS
            obtain ⟨rfl, rfl, -, qh⟩ := jn (hr.1.trans fK)
            exact .same gG (same _ _ _ ef qh) kn
          · cases he
        · cases he
      · cases he
     · rename_i tQ
       have bA : 0 < eH.length := by
        rcases Nat.eq_zero_or_pos eH.length with q | q
        · exact absurd (by simpa using JE.1 q) tQ
        · exact q
       split at he
       · cases he
       · rename_i bd
         have bd : b4 (eH.flatMap aG) = true := by simpa using bd
         have KU := Ra cn bd
         have lh : vals.length = xs.length * i.size := by rw [cn.length, mK kJ, b2]
         have fresh : ∀ base, ρ a = .slice base 0 0 -> eH.length * (i.bytes + 1) <= 1099511627776 -> dh C fid ax H1 w b0 ((execOp ρ o).run C.P w) (.cQ H1.length i.size 0 eH.length eH.length) (H1 ++ [.row i.size eH false]) b0 := by
          intro base hs hb
          have hold : (Builtin.firstCells i.size 0 (.slice base 0 0)).run C.P w.drew = .ok ([] : List Value).toArray w.drew := by
           cases base <;> simp [Builtin.firstCells, loadCells, loadCellsFrom]
          obtain ⟨h6, hz, pf⟩ := Q9 (P := C.P) (t := t) (u := u) (ty := o.type) hd hu hi aP (vC w.drew rfl) hold (by omega) (by rw [eF, <- b2]; exact hb)
          rw [eF, <- b2] at pf hz
          refine dh.newRow gG (cap := h6) (e := e) jE bA kJ (vals := vals) (rest := (Builtin.zeroCells cF.cells (h6 - eH.length)).toList) ?_ cn ?_ hz (by rw [cf, hs, <- b2, pf]; rfl)
          · simp
          · simp only [Bx, zm, qQ, eF, FO, lh, tP, <- b2, <- tl]
            rw [Nat.add_sub_cancel' hz]; exact aK _
         split at he
         · rename_i ah
           split at he
           · rename_i hb
             simp only [aA, bw] at he
             obtain ⟨rfl, rfl, rfl⟩ := he
             rw [ah] at kn
             exact fresh _ kn.jF hb
           · cases he
         · rename_i ah
           split at he
           · rename_i hb
             simp only [aA, bw] at he
             obtain ⟨rfl, rfl, rfl⟩ := he
             rw [ah] at kn
             obtain ⟨df, ef⟩ := kn.qY
             exact fresh _ ef hb
           · cases he
         · rename_i l bC off len tag ah
           rw [ah] at kn
           split at he
           · rename_i eQ ds hl
             split at he
             · rename_i en
               obtain ⟨rfl, rfl, fK, rfl, rfl, hb⟩ := en
               simp only [aA, bw] at he
               obtain ⟨rfl, rfl, rfl⟩ := he
               obtain ⟨h0, df, cL, cap, du, qX, jn, ef⟩ := kn.o7
               obtain ⟨aT, eS, hr⟩ := gG.obj l h0 du
               rw [hl] at eS; cases eS
               obtain ⟨B9, Rb, hfz, fL, me, c, tR, j3, rest, hc, fA, kl, fg⟩ := hr
               obtain ⟨rfl, rfl, qe, qh⟩ := jn (B9.trans fK)
               rw [Nat.zero_mul] at ef
               rw [eF] at qe
               have kK : ds.length = cL := fK
               have om : j3.length = cL * i.size := by rw [fg.length, mK me, kK]
               have j2 : c.size = j3.length + rest.length := by rw [<- gW, kl, kg]
               have sn : ∀ d ∈ ds ++ eH, (aG d).length = i.size := fun d hd => by
                rcases jV.1 hd with q | q
                · exact me d q
                · exact kJ d q
               have Ca : a6 fid ax w ((ds ++ eH).flatMap aG) (j3 ++ vals) := by rw [JI]; exact fg.append cn
               by_cases lf : cL + xs.length <= cap
               ·
                have hmul : (cL + xs.length) * i.size <= c.size := c4 (JG _ lf) (by rw [<- fA]; exact qe)
                rw [tl] at hmul
                have cp := run_storeCells_at C.P h0.b (cL * i.size) tR vals 0 c w hc (by omega) KU
                have hval : (execOp ρ o).run C.P w = .ok (.value (.slice (some ⟨h0.b, 0, none⟩) (cL + xs.length) cap)) (w.setRow h0.b (c.toList.take (cL * i.size) ++ vals ++ c.toList.drop (cL * i.size + vals.length)).toArray) := by
                 rw [cf, ef, Q8 (P := C.P) hd hu hi (vC w rfl) lf]
                 simp only [Addr.add_lit, eF]
                 simp only [zr] at cp
                 rw [cp]; rfl
                have ed : Ext ax w ⟨cg ax.β l { h0 with tag := cL + eH.length }, ax.I⟩ (w.setRow h0.b (c.toList.take (cL * i.size) ++ vals ++ c.toList.drop (cL * i.size + vals.length)).toArray) l H1.length :=
                 Ext.write gG du hfz rfl (by simp only; omega) (fun q => by omega) rfl (setRow_size _ _) (fun b bA => setRow_other bA _) rfl rfl
                refine ⟨_, _, _, .inl hval, bb.write gG du hfz (h' := { h0 with tag := cL + eH.length }) rfl hfz (by simp only; omega) (fun q => by omega) rfl (setRow_size _ _) (fun b bA => setRow_other bA _) (.row i.size (ds ++ eH) false) ?_,
                 fun m hm => ed.le (c4 hm (asU _ _)) (aK _), ?_, jA _ _, by simp⟩
                · refine ⟨by simp [kK], by simp; omega, hfz, fL, sn, _, tR, j3 ++ vals, rest.drop vals.length, setRow_heap w h0.b c _ tR _ hc, ?_, ?_, Ca.ext gG ed⟩
                  · show h0.ff = _
                    rw [fA]
                    simp only [zm, kg, qP, oW, gW]
                    omega
                  · rw [PF, kl, <- om, List.take_left, PN, mb, mb]
                    congr 2
                    rw [Y8 (by omega), oZ]
                    congr 1; omega
                · rw [<- b2]
                  exact .cQ l i.size 0 _ _ { h0 with tag := cL + eH.length } _ _ _ (de _ _ _) (aK _) (fun _ => ⟨by simp, rfl, by rw [eF]; exact qe, by omega⟩)
               ·
                have hold : (Builtin.firstCells i.size cL (.slice (some ⟨h0.b, 0, none⟩) cL cap)).run C.P w.drew = .ok j3.toArray w.drew :=
                 KT (asJ.xc (w := w.drew) hc kl) om
                obtain ⟨h6, hz, pf⟩ := Q9 (P := C.P) (t := t) (u := u) (ty := o.type) hd hu hi aP (vC w.drew rfl) hold (by omega) (by rw [<- b2]; exact hb)
                have xp : bb C fid ax H1 w.drew := gG.la rfl
                have dw : ∀ m n, Ext ax w ax w.drew m n := fun m n => Ext.la (w := w) (w' := w.drew) rfl rfl rfl m n
                obtain ⟨bG, ch⟩ := bb.move xp du hfz (.cells (j3.toArray ++ vals.toArray ++ Builtin.zeroCells cF.cells (h6 - (cL + xs.length))) e) (cL + eH.length)
                 (j3.toArray ++ vals.toArray ++ Builtin.zeroCells cF.cells (h6 - (cL + xs.length))).size (by omega) (by omega) (.row i.size (ds ++ eH) false)
                 ⟨by simp [kK], by simp; omega, rfl, fL, sn, _, e, j3 ++ vals, (Builtin.zeroCells cF.cells (h6 - (cL + xs.length))).toList, oe _ _, rfl, by simp, a6.mono (G := ax) (w := w.drew) (G' := ⟨cg ax.β l ⟨w.drew.heap.size, cL + eH.length, (j3.toArray ++ vals.toArray ++ Builtin.zeroCells cF.cells (h6 - (cL + xs.length))).size, false⟩, ax.I⟩) (by
                  intro x eK ez
                  by_cases h4 : x = l
                  · subst h4; rw [du] at ez; cases ez
                    exact ⟨_, de _ _ _, by simp only; omega, fun q => by omega, fun q => by simp only at q; omega, fun q => by rw [hfz] at q; cases q⟩
                  · exact ⟨eK, by simp only [dp h4]; exact ez, aK _, id, fun _ => ⟨rfl, rfl⟩, fun _ => rfl⟩) (fun b sq => ⟨sq, alloc_old (w := w.drew) (xp.cX b sq).1⟩) (Ca.ext gG (dw 0 0))⟩
                refine ⟨_, _, _, .inl (by rw [cf, ef, pf]; rfl), bG, fun m hm => (dw m H1.length).trans (ch.le (c4 hm (asU _ _)) (aK _)), ?_, jA _ _, by simp⟩
                rw [<- b2]
                refine .cQ l i.size 0 _ _ ⟨w.drew.heap.size, cL + eH.length, _, false⟩ _ _ _ (de _ _ _) (aK _) (fun _ => ⟨by simp, rfl, ?_, by omega⟩)
                simp only [Bx, zm, FO, lh, om, tP, <- tl, eF]
                have tL : cL + xs.length + (h6 - (cL + eH.length)) = h6 := by omega
                rw [tL]; exact aK _
             · cases he
           · cases he
         · cases he
   · cases he
 · cases he
end Go.Abs
namespace Go.Abs
open Go
variable {C : Ctx} {fid : Nat -> Nat} {w w' : World} {G G' : bT} {H : Heap}
variable {vars : List Nat} {ag : aj -> V} {ρ : Operand -> Value} {low low' : Nat} {v : V} {H' : Heap} {pos : String} {c7 : cH} {o : Oper}
theorem Rc : ∀ {a b : List V}, k6 (a ++ b) = (k6 a && k6 b)
 | [], b => by simp [k6]
 | x :: a, b => by simp [k6, Rc (a := a), BB]
theorem abb (aa : bb C fid G H w) (aM : fh C fid vars G w ag ρ) {a b : Operand} {t u e e' : TypeId} {n : Nat} {args : Array Operand} {ts : Array TypeId} (ho : o.op = .call { callee := .builtin .copy, args, argTypes := ts })
  (ao : args = #[a, b]) (ht : ts = #[t, u]) {mP jJ : aj} (h1 : C.bV vars a = some mP) (h2 : C.bV vars b = some jJ) (hd : C.P.underlying t = some (.slice e)) (hn : C.sizeOf e = some n)
  (he : step ag H low (.copy n mP jJ) = some (v, H', low')) : dh C fid G H w low ((execOp ρ o).run C.P w) v H' low' := by
 subst ao; subst ht
 have hx := aM a mP h1
 have hy := aM b jJ h2
 have cf : (execOp ρ o).run C.P w = ((Builtin.copy_ #[t, u] o.type #[ρ a, ρ b]).run C.P w).andThen fun z w' => .ok (.value z) w' := by
  rw [xl ho]
  simp only [builtin, Sem.run_bind, JP, eD, n5]
  rfl
 have zero : ∀ base, (∃ xs, elems H n (ag jJ) = some xs) -> ρ a = .slice base 0 0 -> dh C fid G H w low ((execOp ρ o).run C.P w) (.int .i64 0) H low := by
  rintro base ⟨xs, eJ⟩ hs
  obtain ⟨xo, FP, B7, FQ⟩ := FN aa hy eJ
  refine .same aa (x := .int .i64 0) ?_ (.p _ _ (.int _ _))
  rw [cf, hs, B7]
  cases xo <;> cases base <;> simp [Builtin.copy_, run_underlying hd, Builtin.lenOf, Builtin.firstCells, loadCells, loadCellsFrom, xk (C := C) hn, storeCells, goInt]
 simp only [step] at he
 split at he
 · rename_i xs ah eJ
   simp only [aA, bw] at he
   obtain ⟨rfl, rfl, rfl⟩ := he
   rw [ah] at hx
   exact zero _ ⟨_, eJ⟩ hx.jF
 · rename_i xs ah eJ
   simp only [aA, bw] at he
   obtain ⟨rfl, rfl, rfl⟩ := he
   rw [ah] at hx
   obtain ⟨df, ef⟩ := hx.qY
   exact zero _ ⟨_, eJ⟩ ef
 · rename_i l bC off len tag xs ah eJ
   split at he
   · rename_i eQ ds hl
     split at he
     · rename_i en
       obtain ⟨rfl, rfl, fK, om, jo⟩ := en
       simp only [aA, bw] at he
       obtain ⟨rfl, rfl, rfl⟩ := he
       rw [ah] at hx
       obtain ⟨xo, FP, B7, FQ⟩ := FN aa hy eJ
       obtain ⟨h0, df, cL, cap, du, qX, jn, ef⟩ := hx.o7
       obtain ⟨aT, eS, hr⟩ := aa.obj l h0 du
       rw [hl] at eS; cases eS
       obtain ⟨B9, Rb, hfz, fL, me, c, tR, j3, rest, hc, fA, kl, fg⟩ := hr
       obtain ⟨rfl, rfl, -, -⟩ := jn (B9.trans fK)
       have key : ∃ dc, (Builtin.firstCells eQ (Nat.min xs.length cL) (.slice xo xs.length FP)).run C.P w = .ok dc.toArray w /\ a6 fid G w ((xs.take cL).flatMap aG) dc /\ ((xs.take cL).flatMap aG).length = (xs.take cL).length * eQ /\ ∀ d ∈ xs.take cL, (aG d).length = eQ := by
        by_cases bA : xs = []
        · subst bA
          refine ⟨[], ?_, by simpa using a6.nil, by simp, by simp⟩
          cases xo <;> simp [Builtin.firstCells, loadCells, loadCellsFrom]
        · obtain ⟨zN, o', vals, rfl, xf, ot, mL⟩ := FQ bA
          have sn : ∀ d ∈ xs.take cL, (aG d).length = eQ := fun d hd => mL d (Bv hd)
          refine ⟨vals.take (cL * eQ), ?_, by rw [zE mL]; exact ot.take _, mK sn, sn⟩
          have lh : vals.length = xs.length * eQ := by rw [ot.length, mK mL]
          have e2 : (vals.take (cL * eQ)).length = Nat.min xs.length cL * eQ := by
           rw [qP, lh, Nat.mul_min_mul_right, Nat.min_comm]
          have := run_loadCells_list (P := C.P) w ⟨zN, o', none⟩ (vals.take (cL * eQ)) (fun j v hj => by rw [Addr.add_lit]; exact (xf.take _) j v hj)
          rw [e2] at this
          exact this
       obtain ⟨dc, Rd, FR, KV, abc⟩ := key
       have bd : ∀ x ∈ dc, x.oneCell' = true := by
        refine FG FR (Kx ?_)
        have : k6 ((xs.take cL ++ xs.drop cL).flatMap aG) = true := by rw [PA]; exact jo
        rw [JI, Rc, cd] at this
        exact this.1
       have qW := FR.length
       have h4 : (xs.take cL).length = min cL xs.length := by simp
       have kK : ds.length = tag := fK
       have hmul : (off + min cL xs.length) * eQ <= ds.length * eQ := JG _ (by have := jA cL xs.length; omega)
       rw [tl] at hmul
       have aqQ : j3.length = ds.length * eQ := by rw [fg.length, mK me]
       have j2 : c.size = j3.length + rest.length := by rw [<- gW, kl, kg]
       have cp := run_storeCells_at C.P h0.b (off * eQ) tR dc 0 c w hc (by rw [qW, KV, h4]; omega) bd
       obtain ⟨G', bG, ch⟩ := QN aa du hl (ds' := ds.take off ++ xs.take cL ++ ds.drop (off + min cL xs.length)) (by simp only [kg, qP, oW]; omega)
        (fun d hd => by
          rcases jV.1 hd with q | q
          · rcases jV.1 q with q | q
            · exact me d (Bv q)
            · exact abc d q
          · exact me d (E9 q)) (o := off * eQ) FR (by rw [KV, h4]; omega)
        (fun vals af => by
          rw [JI, JI, zE me, xb me, qW, KV, h4, <- tl]
          exact ((af.take _).append FR).append (af.drop _)) hc
       refine ⟨_, _, G', .inl ?_, bG, fun m hm => ch.le (c4 hm (asU _ _)) (aK _), .p _ _ (.int _ _), jA _ _, by simp⟩
       rw [cf, ef, B7]
       simp only [zr] at cp
       have tL : xs.length.min cL = min cL xs.length := Nat.min_comm _ _
       rw [tL] at Rd
       simp [Builtin.copy_, run_underlying hd, Builtin.lenOf, xk (C := C) hn, tL, Rd, cp, goInt]
     · cases he
   · cases he
 · cases he
theorem sr {k : TypeId} {bL : Nat} (ai : C.iQ k = some bL) (em : Bool) (n : Nat) (x : Value) : (Instr.checkKey em (n + 1) k x).run C.P w = .ok () w := by
 unfold Ctx.iQ at ai
 unfold Instr.checkKey
 split at ai <;> rename_i hd <;> first | (cases ai; done) | (rw [Sem.run_bind, run_underlying hd]; rfl)
theorem vD {k : TypeId} {bL : Nat} {d : TypeDesc} (ai : C.iQ k = some bL) (hd : C.P.underlying k = some d) {a b : V} {e : Bool} {x y : Value} (ao : bg fid G w a x) (hb : bg fid G w b y) (he : hX bL a b = some e) :
  Instr.sameNow d x y = some e /\ (e = true -> Instr.sameBits 10000 y x = true) := by
 unfold Ctx.iQ at ai
 rw [hd] at ai
 unfold hX at he
 split at he
 · split at he
   · rename_i BV
     simp only [aA] at he; subst he; subst BV
     rw [ao.jm, hb.jm]
     cases d <;> simp at ai
     refine ⟨by simp [Instr.sameNow], fun h => ?_⟩
     simp at h; subst h
     simp [Instr.sameBits]
   · cases he
 · simp only [aA] at he; subst he
   rw [ao.og, hb.og]
   cases d <;> simp at ai
   refine ⟨by simp [Instr.sameNow, beq_toListBytes, ByteArray.toList_eq], fun h => ?_⟩
   simp at h; subst h
   simp [Instr.sameBits, beq_toListBytes, ByteArray.toList_eq]
 · simp only [aA] at he; subst he
   rw [ao.j1, hb.j1]
   cases d <;> simp at ai
   refine ⟨by simp [Instr.sameNow], fun h => ?_⟩
   simp at h; subst h
   simp [Instr.sameBits]
 · cases he
theorem qk {k : TypeId} {bL : Nat} {d : TypeDesc} (ai : C.iQ k = some bL) (hd : C.P.underlying k = some d) {a : V} {x : Value} (ao : bg fid G w a x) : ∀ {bk : List (V × V)} {es : List MapEntry} (i : Nat) {r : Option V},
  a6 fid G w (bk.map (·.1)) (es.map (·.key)) -> a6 fid G w (bk.map (·.2)) (es.map (·.val)) -> hv bL a bk = some r ->
  match r with
  | none => Instr.findNow d x es i = some none
  | some u => ∃ j y, Instr.findNow d x es i = some (some (i + j, y)) /\ bg fid G w u y /\ (∃ e, es[j]? = some e /\ Instr.sameBits 10000 e.key x = true)
 | [], [], i, r, _, _, h => by
   simp only [hv, aA] at h; subst h
   rfl
 | [], _ :: _, _, _, h, _, _ => by simp at h; cases h
 | _ :: _, [], _, _, h, _, _ => by simp at h; cases h
 | (bs, u) :: bk, e :: es, i, r, ee, cO, h => by
   simp only [eD] at ee cO
   cases ee with
   | cons _ _ _ _ hL ee =>
     cases cO with
     | cons _ _ _ _ qj cO =>
       simp only [hv] at h
       split at h
       · rename_i he
         simp only [aA] at h; subst h
         obtain ⟨hs, hb⟩ := vD ai hd ao hL he
         exact ⟨0, e.val, by simp [Instr.findNow, hs], qj, e, rfl, hb rfl⟩
       · rename_i he
         obtain ⟨hs, -⟩ := vD ai hd ao hL he
         have ih := qk ai hd ao (i + 1) ee cO h
         cases r with
         | none => simpa [Instr.findNow, hs] using ih
         | some u' =>
           obtain ⟨j, y, h1, h2, e', av, bc⟩ := ih
           refine ⟨j + 1, y, ?_, h2, e', by simpa using av, bc⟩
           have : i + (j + 1) = i + 1 + j := by omega
           rw [this]
           simpa [Instr.findNow, hs] using h1
       · cases h
theorem tS {k : TypeId} {d : TypeDesc} (hd : C.P.underlying k = some d) {x : Value} {es : List MapEntry} {r : Option (Nat × Value)} (h : Instr.findNow d x es 0 = some r) : (Instr.findKey k x es).run C.P w = .ok r w := by
 unfold Instr.findKey
 simp only [Sem.run_bind, run_underlying hd, Result.andThen_ok, h, Sem.run_pure]
theorem FT {k : TypeId} {bL : Nat} (ai : C.iQ k = some bL) : ∃ d, C.P.underlying k = some d := by
 unfold Ctx.iQ at ai
 split at ai <;> rename_i hd <;> first | exact ⟨_, hd⟩ | cases ai
theorem abd {t : TypeId} {z : V} (aP : C.zeroV t = some z) (hu : tr z = false) : ∃ cF, (∀ w, (zeroValue t).run C.P w = .ok cF w) /\ ∀ (G : bT) (w : World), bg fid G w z cF := by
 unfold Ctx.zeroV at aP
 split at aP
 · rename_i i hi
   split at aP
   · rename_i cF zK
     refine ⟨cF, fun w => ?_, fun G w => .p _ _ ((BR cF aP).resolve_left (by rintro rfl; simp [tr] at hu))⟩
     simp only [zeroValue, Sem.run_bind, run_typeInfo (P := C.P) w hi, Result.andThen_ok, zK, Sem.run_pure]
   · cases aP
 · cases aP
theorem vE {r : Nat} {es : Array MapEntry} {bE : Nat} (h : w.heap[r]? = some (.map es bE)) : (getObj r).run C.P w = .ok (.map es bE) w := by simp [getObj, Sem.run, h]
theorem zP {r : Nat} {es : Array MapEntry} {bE : Nat} (o : Obj) (h : w.heap[r]? = some (.map es bE)) : (setObj r o).run C.P w = .ok () { w with heap := w.heap.setIfInBounds r o } := by simp [setObj, Sem.run, h]
theorem abe (aa : bb C fid G H w) (aM : fh C fid vars G w ag ρ) {t : TypeId} {x i : Operand} {ok : Bool} (ho : o.op = .lookup t x i ok) (hc : C.cI vars pos o.op = some c7) (he : step ag H low c7 = some (v, H', low')) :
  dh C fid G H w low ((execOp ρ o).run C.P w) v H' low' := by
 rw [ho] at hc
 simp only [Ctx.cI] at hc
 split at hc
 · rename_i k e cv iU hd h1 h2
   split at hc
   · rename_i bL z gh aP
     split at hc
     · cases hc
     · rename_i abf
       simp only [aA] at hc; subst hc
       have hx := aM x cv h1
       have hi := aM i iU h2
       obtain ⟨cF, mN, nH⟩ := abd (fid := fid) aP (by simpa using abf)
       obtain ⟨FU, iy⟩ := FT gh
       have cf : (execOp ρ o).run C.P w = ((Instr.lookup t (ρ x) (ρ i) ok).run C.P w).andThen fun z w' => .ok (.value z) w' := by
        unfold execOp; rw [ho]; simp only [Sem.run_bind]; rfl
       have res : ∀ (u : V) (y : Value) (b : Bool), bg fid G w u y -> bg fid G w (if ok then .ba [u, .bool b] else u) (if ok then .tuple #[y, .bool b] else y) := by
        intro u y b h
        cases ok
        · exact h
        · exact .ba _ [y, .bool b] (.cons _ _ _ _ h (.cons _ _ _ _ (.p _ _ (.bool _)) .nil))
       simp only [step] at he
       split at he
       · rename_i ah
         simp only [aA, bw] at he
         obtain ⟨rfl, rfl, rfl⟩ := he
         rw [ah] at hx
         refine .same aa ?_ (res z cF false (nH G w))
         rw [cf, hx.KA]
         unfold Instr.lookup
         have ae := tS (C := C) (w := w) iy (x := ρ i) (es := []) (r := none) rfl
         simp only [Sem.run_bind, run_underlying hd, Result.andThen_ok, Sem.run_pure, sr gh, ae, mN]
       · rename_i l ah
         rw [ah] at hx
         obtain ⟨h0, du, -, ef⟩ := hx.mapInv
         split at he
         · rename_i bk hl
           obtain ⟨aT, eS, hr⟩ := aa.obj l h0 du
           rw [hl] at eS; cases eS
           obtain ⟨-, -, es, bE, hm, hL, xm, -⟩ := hr
           split at he
           · rename_i u h7
             simp only [aA, bw] at he
             obtain ⟨rfl, rfl, rfl⟩ := he
             obtain ⟨j, y, ae, fg, -⟩ := qk gh iy hi 0 hL xm h7
             refine .same aa ?_ (res u y true fg)
             rw [cf, ef]
             unfold Instr.lookup
             simp only [Sem.run_bind, run_underlying hd, Result.andThen_ok, Sem.run_pure, vE hm, sr gh, tS (C := C) iy ae]
           · rename_i h7
             simp only [aA, bw] at he
             obtain ⟨rfl, rfl, rfl⟩ := he
             have ae := qk gh iy hi 0 hL xm h7
             refine .same aa ?_ (res z cF false (nH G w))
             rw [cf, ef]
             unfold Instr.lookup
             simp only [Sem.run_bind, run_underlying hd, Result.andThen_ok, Sem.run_pure, vE hm, sr gh, tS (C := C) iy ae, mN]
           · cases he
         · cases he
       · cases he
   · cases hc
 · cases hc
theorem KW {bL : Nat} {k u : V} : ∀ {bk : List (V × V)}, hv bL k bk = some none -> kH bL k u bk = bk ++ [(k, u)]
 | [], _ => rfl
 | (bs, v) :: r, h => by
   simp only [hv] at h
   split at h
   · cases h
   · rename_i he
     simp [kH, he, KW h]
   · cases h
theorem Re {k : TypeId} {bL : Nat} {d : TypeDesc} (ai : C.iQ k = some bL) (hd : C.P.underlying k = some d) {a : V} {x : Value} (ao : bg fid G w a x) {u : V} {y : Value} (hu : bg fid G w u y) : ∀ {bk : List (V × V)} {es : List MapEntry} (i : Nat) {r : V} {j : Nat} {z : Value},
  a6 fid G w (bk.map (·.1)) (es.map (·.key)) -> a6 fid G w (bk.map (·.2)) (es.map (·.val)) -> hv bL a bk = some (some r) -> Instr.findNow d x es i = some (some (i + j, z)) ->
  a6 fid G w ((kH bL a u bk).map (·.1)) ((es.modify j fun e => { e with key := x, val := y }).map (·.key)) /\ a6 fid G w ((kH bL a u bk).map (·.2)) ((es.modify j fun e => { e with key := x, val := y }).map (·.val))
 | [], [], i, r, j, z, _, _, h, _ => by simp [hv] at h
 | [], _ :: _, _, _, _, _, h, _, _, _ => by simp at h; cases h
 | _ :: _, [], _, _, _, _, h, _, _, _ => by simp at h; cases h
 | (bs, u') :: bk, e :: es, i, r, j, z, ee, cO, h, ae => by
   simp only [eD] at ee cO
   cases ee with
   | cons _ _ _ _ hL ee =>
     cases cO with
     | cons _ _ _ _ qj cO =>
       simp only [hv] at h
       split at h
       · rename_i he
         obtain ⟨hs, -⟩ := vD ai hd ao hL he
         simp only [Instr.findNow, hs, aA, bw] at ae
         obtain rfl : j = 0 := by omega
         simp only [kH, he, if_true, eD, List.modify_zero_cons]
         exact ⟨.cons _ _ _ _ ao ee, .cons _ _ _ _ hu cO⟩
       · rename_i he
         obtain ⟨hs, -⟩ := vD ai hd ao hL he
         simp only [Instr.findNow, hs] at ae
         have j4 := qk ai hd ao (i + 1) ee cO h
         obtain ⟨tT, y', h1, -, -⟩ := j4
         rw [h1] at ae
         simp only [aA, bw] at ae
         obtain ⟨hj, rfl⟩ := ae
         obtain rfl : j = tT + 1 := by omega
         have ih := Re ai hd ao hu (i + 1) ee cO h h1
         have bA : ¬ (hX bL a bs = some true) := by rw [he]; simp
         simp only [kH, bA, if_false, eD, List.modify_succ_cons]
         exact ⟨.cons _ _ _ _ hL ih.1, .cons _ _ _ _ qj ih.2⟩
       · cases h
theorem nx.push {es : Array MapEntry} {bE : Nat} (h : nx es bE) (x y : Value) : nx (es.push { key := x, val := y, born := bE }) (bE + 1) := by
 refine ⟨fun e he => ?_, ?_⟩
 · rw [PM, jV] at he
   rcases he with he | he
   · exact JN (h.1 e he)
   · rw [PJ] at he; subst he; exact wZ _
 · rw [PM, oY, Fe]
   refine ⟨h.2, by simp, fun a ao b hb => ?_⟩
   simp only [eD, n5, PJ] at hb
   subst hb
   obtain ⟨e, he, rfl⟩ := ey.1 ao
   exact p5 (h.1 e he)
theorem Rf (x y : Value) : ∀ (l : List MapEntry) (j : Nat), (l.modify j fun e => { e with key := x, val := y }).map (·.born) = l.map (·.born)
 | [], j => by cases j <;> simp
 | e :: l, 0 => by simp
 | e :: l, j + 1 => by simp [Rf x y l j]
theorem nx.modify {es : Array MapEntry} {bE : Nat} (h : nx es bE) (j : Nat) (x y : Value) : nx (es.modify j fun e => { e with key := x, val := y }) bE := by
 have ah : (es.modify j fun e => { e with key := x, val := y }).toList.map (·.born) = es.toList.map (·.born) := by
  rw [Array.toList_modify]; exact Rf x y _ j
 refine ⟨fun e he => ?_, by rw [ah]; exact h.2⟩
 have : e.born ∈ es.toList.map (·.born) := by rw [<- ah]; exact ey.2 ⟨e, he, rfl⟩
 obtain ⟨e', asP, q⟩ := ey.1 this
 rw [<- q]; exact h.1 e' asP
theorem Rg (aa : bb C fid G H w) (aM : fh C fid vars G w ag ρ) {t : TypeId} {m k x : Operand} (ho : o.op = .mapUpdate t m k x \/ o.op = .insert t m k x) (hc : C.cI vars pos o.op = some c7) (he : step ag H low c7 = some (v, H', low')) :
  dh C fid G H w low ((execOp ρ o).run C.P w) v H' low' := by
 have hc : C.cI vars pos (.mapUpdate t m k x) = some c7 := by
  rcases ho with ho | ho
  · rw [ho] at hc; exact hc
  · rw [ho] at hc; exact hc
 simp only [Ctx.cI] at hc
 split at hc
 · rename_i eh q3 am gR cv hd h1 h2 av
   obtain ⟨bL, gh, rfl⟩ := cD.1 hc
   have hm := aM m am h1
   have ai := aM k gR h2
   have hx := aM x cv av
   obtain ⟨FU, iy⟩ := FT gh
   have cf : (execOp ρ o).run C.P w = ((Instr.mapUpdate t (ρ m) (ρ k) (ρ x)).run C.P w).andThen fun _ w' => .ok .skip w' := by
    unfold execOp; rcases ho with ho | ho <;> (rw [ho]; simp only [Sem.run_bind]; rfl)
   simp only [step] at he
   split at he
   · rename_i u' H1 b0 hfz
     split at he
     · cases he
     · rename_i me
       obtain ⟨ax, f1, cn⟩ := FD aa hx hfz
       have gG := f1.rel
       have FV := f1.ext 0 (cx _)
       have lp := hm.ext aa FV
       have hL := ai.ext aa FV
       refine dh.zH f1 ?_
       split at he
       · rename_i l ah
         rw [ah] at lp
         obtain ⟨h0, du, Rh, ef⟩ := lp.mapInv
         split at he
         · rename_i bk hl
           obtain ⟨aT, eS, hr⟩ := gG.obj l h0 du
           rw [hl] at eS; cases eS
           obtain ⟨ou, iV, es, bE, dn, ee, cO, cp⟩ := hr
           split at he
           · rename_i bN h7
             simp only [aA, bw] at he
             obtain ⟨rfl, rfl, rfl⟩ := he
             have aH : h0.b < w.heap.size := gG.blk l h0 du
             have fin : ∀ (ss : Obj) (bC : Array MapEntry) (q4 : Nat), ss = .map bC q4 -> (Instr.mapUpdate t (ρ m) (ρ k) (ρ x)).run C.P w = .ok () { w with heap := w.heap.setIfInBounds h0.b ss } ->
               a6 fid ax w ((kH bL (ag gR) u' bk).map (·.1)) (bC.toList.map (·.key)) -> a6 fid ax w ((kH bL (ag gR) u' bk).map (·.2)) (bC.toList.map (·.val)) -> nx bC q4 ->
               dh C fid ax H1 w b0 ((execOp ρ o).run C.P w) .undef (H1.set l (.map (kH bL (ag gR) u' bk))) (min b0 l) := by
              rintro ss bC q4 rfl pf vF xq xr
              have tU : ∀ b, b ≠ h0.b -> ({ w with heap := w.heap.setIfInBounds h0.b (.map bC q4) } : World).heap[b]? = w.heap[b]? := fun b bA => by
               show (w.heap.setIfInBounds h0.b _)[b]? = _
               rw [Px (ki bA)]
              have zQ : ({ w with heap := w.heap.setIfInBounds h0.b (.map bC q4) } : World).heap[h0.b]? = some (.map bC q4) := by
               show (w.heap.setIfInBounds h0.b _)[h0.b]? = _
               simp [aH]
              have dP : ({ w with heap := w.heap.setIfInBounds h0.b (.map bC q4) } : World).heap.size = w.heap.size := by simp
              have ed : Ext ax w ⟨cg ax.β l h0, ax.I⟩ { w with heap := w.heap.setIfInBounds h0.b (.map bC q4) } l H1.length :=
               Ext.write gG du iV rfl (aK _) id rfl dP tU rfl rfl
              refine ⟨undef, _, _, .inr ⟨by rw [cf, pf]; rfl, rfl⟩, bb.write gG du iV rfl iV (aK _) id rfl dP tU (.map (kH bL (ag gR) u' bk)) ⟨ou, iV, bC, q4, zQ, vF.ext gG ed, xq.ext gG ed, xr⟩,
               fun m hm => ed.le (c4 hm (asU _ _)) (aK _), .undef _, jA _ _, by simp⟩
             cases bN with
             | none =>
               have ae := qk gh iy hL 0 ee cO h7
               refine fin _ (es.push { key := ρ k, val := ρ x, born := bE }) (bE + 1) rfl ?_ ?_ ?_ (cp.push _ _)
               · unfold Instr.mapUpdate
                 simp only [ef, Sem.run_bind, run_underlying hd, Result.andThen_ok, vE dn, sr gh, tS (C := C) iy ae, zP _ dn]
               · rw [KW h7]
                 simp only [oY, eD, n5, PM]
                 exact ee.append (.cons _ _ _ _ hL .nil)
               · rw [KW h7]
                 simp only [oY, eD, n5, PM]
                 exact cO.append (.cons _ _ _ _ cn .nil)
             | some r =>
               obtain ⟨j, y, ae, -, abg, abh, abj⟩ := qk gh iy hL 0 ee cO h7
               obtain ⟨s1, s2⟩ := Re gh iy hL cn 0 ee cO h7 ae
               rw [eF] at ae
               refine fin _ (es.modify j fun e => { e with key := ρ k, val := ρ x }) bE rfl ?_ (by simpa using s1) (by simpa using s2) (cp.modify _ _ _)
               have abk : es[j]? = some abg := by rw [<- iK]; exact abh
               unfold Instr.mapUpdate
               simp only [ef, Sem.run_bind, run_underlying hd, Result.andThen_ok, vE dn, sr gh, tS (C := C) iy ae, abk, r5, vg, Instr.keyThatStays, abj, if_true, Sem.run_pure, zP _ dn]
           · cases he
         · cases he
       · cases he
   · cases he
 · cases hc
end Go.Abs
