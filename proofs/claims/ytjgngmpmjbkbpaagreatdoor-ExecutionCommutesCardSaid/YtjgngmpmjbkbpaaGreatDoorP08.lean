/- Texts of this claim, joined and written short by a program. -/
import Derived.Test.YtjgngmpmjbkbpaaGreatDoorP07
import Derived.Laws.BytesString
import Derived.Test.YtjgngmpmjbkbpaaGreatDoorP00
set_option linter.unusedVariables false
set_option linter.unusedSimpArgs false
set_option linter.unusedSectionVars false
namespace Go.Abs
open Go
variable {C : Ctx} {fid : Nat -> Nat} {w w' : World} {G G' : bT} {H : Heap}
variable {vars : List Nat} {ag : aj -> V} {ρ : Operand -> Value} {low low' : Nat} {v : V} {H' : Heap} {pos : String} {c7 : cH} {o : Oper}
theorem Ri : ∀ {ds : List V} {s : List UInt8} {vals : List Value}, bytesOf ds = some s -> a6 fid G w (ds.flatMap aG) vals -> ∃ mh : List Int, vals = mh.map (Value.int .u8) /\ s = mh.map fun n => UInt8.ofNat n.toNat
 | [], s, vals, h, hr => by
   simp only [bytesOf, aA] at h; subst h
   cases hr
   exact ⟨[], rfl, rfl⟩
 | d :: ds, s, vals, h, hr => by
   unfold bytesOf at h
   split at h
   · rename_i q; cases q
   · rename_i n r q
     cases q
     obtain ⟨t, ht, rfl⟩ := cD.1 h
     simp only [kF, aG, oX, oZ] at hr
     cases hr with
     | cons _ x _ xs hx hs =>
       obtain ⟨mh, rfl, rfl⟩ := Ri ht hs
       exact ⟨n :: mh, by rw [hx.jm]; rfl, rfl⟩
   · cases h
theorem Rj : ∀ (mh : List Int) (b : ByteArray), mh.foldl (fun r n => r.push (UInt8.ofNat n.toNat)) b = ⟨(b.data.toList ++ mh.map fun n => UInt8.ofNat n.toNat).toArray⟩
 | [], b => by simp
 | n :: mh, b => by
   simp only [vi, Rj mh, eD]
   congr 1
   simp [ByteArray.push]
theorem abl (aa : bb C fid G H w) (aM : fh C fid vars G w ag ρ) {s d : TypeId} {x : Operand} (ho : o.op = .convert s d x) {cv : aj} (hc : C.cI vars pos o.op = some (.tn cv)) (he : step ag H low (.tn cv) = some (v, H', low')) :
  dh C fid G H w low ((execOp ρ o).run C.P w) v H' low' := by
 rw [ho] at hc
 simp only [Ctx.cI] at hc
 split at hc
 · cases hc
 · rename_i e abm h1 h2 av
   split at hc
   · rename_i bc
     simp only [aA, cH.tn.injEq] at hc; subst hc
     have af := aM x abm av
     simp only [step] at he
     split at he
     · rename_i ds hd
       obtain ⟨t, ht, he⟩ := cD.1 he
       simp only [bw] at he
       obtain ⟨rfl, rfl, rfl⟩ := he
       obtain ⟨df, cap, hx, bD⟩ := FN aa af hd
       have cf : (convert s d (ρ x)).run C.P w = .ok (.string ⟨t.toArray⟩) w := by
        rw [hx, run_convert_bytes_string w s d e df ds.length cap h1 bc h2]
        cases df with
        | none =>
          have : ds = [] := by
           cases si : ds with
           | nil => rfl
           | cons a r =>
             obtain ⟨b, off, vals, hb, -⟩ := bD (by rw [si]; simp)
             cases hb
          subst this
          simp only [bytesOf, aA] at ht; subst ht
          simp [Conv.bytesToString, Sem.run_pure]
          rfl
        | some a =>
          have key : ∃ mh : List Int, (loadCells a ds.length).run C.P w = .ok (mh.map (Value.int .u8)).toArray w /\ t = mh.map fun n => UInt8.ofNat n.toNat := by
           by_cases bA : ds = []
           · subst bA
             simp only [bytesOf, aA] at ht; subst ht
             exact ⟨[], by simp [loadCells, loadCellsFrom, Sem.run_pure], rfl⟩
           · obtain ⟨b, off, vals, hb, j2, fg, hu⟩ := bD bA
             cases hb
             obtain ⟨mh, rfl, hs⟩ := Ri ht fg
             refine ⟨mh, ?_, hs⟩
             have hl : ds.length = (mh.map (Value.int .u8)).length := by
              have := fg.length
              rw [mK hu] at this
              simpa using this.symm
             rw [hl]
             exact run_loadCells_list (P := C.P) w ⟨b, off, none⟩ _ (fun j v hj => by rw [Addr.add_lit]; exact j2 j v hj)
          obtain ⟨mh, h5, rfl⟩ := key
          rw [run_bytesToString w a ds.length cap mh h5, Rj]
          simp
       exact .same aa (x := .string ⟨t.toArray⟩) (by unfold execOp; rw [ho]; simp only [Sem.run_bind, cf]; rfl) (by
        have := bg.p (fid := fid) (G := G) (w := w) (.str t) _ (.str t)
        exact this)
     · cases he
   · cases hc
 · cases hc
theorem zR {bL : Nat} {k : V} : ∀ {bk : List (V × V)}, hv bL k bk = some none -> hY bL k bk = bk
 | [], _ => rfl
 | (bs, v) :: r, h => by
   simp only [hv] at h
   split at h
   · cases h
   · rename_i he
     simp [hY, he, zR h]
   · cases h
theorem KX {k : TypeId} {bL : Nat} {d : TypeDesc} (ai : C.iQ k = some bL) (hd : C.P.underlying k = some d) {a : V} {x : Value} (ao : bg fid G w a x) : ∀ {bk : List (V × V)} {es : List MapEntry} (i : Nat) {r : V} {j : Nat} {z : Value},
  a6 fid G w (bk.map (·.1)) (es.map (·.key)) -> a6 fid G w (bk.map (·.2)) (es.map (·.val)) -> hv bL a bk = some (some r) -> Instr.findNow d x es i = some (some (i + j, z)) ->
  a6 fid G w ((hY bL a bk).map (·.1)) ((es.eraseIdx j).map (·.key)) /\ a6 fid G w ((hY bL a bk).map (·.2)) ((es.eraseIdx j).map (·.val))
 | [], [], i, r, j, z, _, _, h, _ => by simp [hv] at h
 | [], _ :: _, _, _, _, _, h, _, _, _ => by simp at h; cases h
 | _ :: _, [], _, _, _, _, h, _, _, _ => by simp at h; cases h
 | (bs, u') :: bk, e :: es, i, r, j, z, ee, cO, h, ae => by
   simp only [eD] at ee cO
   cases ee with
   | cons _ _ _ _ hL ee =>
     cases cO with
     | cons _ _ _ _ qj cO =>
       simp only [hv] at h
       split at h
       · rename_i he
         obtain ⟨hs, -⟩ := vD ai hd ao hL he
         simp only [Instr.findNow, hs, aA, bw] at ae
         obtain rfl : j = 0 := by omega
         simp only [hY, he, if_true, Y5]
         exact ⟨ee, cO⟩
       · rename_i he
         obtain ⟨hs, -⟩ := vD ai hd ao hL he
         simp only [Instr.findNow, hs] at ae
         have j4 := qk ai hd ao (i + 1) ee cO h
         obtain ⟨tT, y', h1, -, -⟩ := j4
         rw [h1] at ae
         simp only [aA, bw] at ae
         obtain ⟨hj, rfl⟩ := ae
         obtain rfl : j = tT + 1 := by omega
         have ih := KX ai hd ao (i + 1) ee cO h h1
         have bA : ¬ (hX bL a bs = some true) := by rw [he]; simp
         simp only [hY, bA, if_false, eD, Y6]
         exact ⟨.cons _ _ _ _ hL ih.1, .cons _ _ _ _ qj ih.2⟩
       · cases h
theorem nx.erase {es : Array MapEntry} {bE : Nat} (h : nx es bE) (j : Nat) : nx (es.eraseIdxIfInBounds j) bE := by
 have hs : (es.eraseIdxIfInBounds j).toList.Sublist es.toList := by
  rw [Y2]; exact List.eraseIdx_sublist _ _
 exact ⟨fun x hx => h.1 x (hs.subset hx), h.2.sublist (hs.map _)⟩
theorem abn (aa : bb C fid G H w) (aM : fh C fid vars G w ag ρ) {m k : Operand} {t eh q3 : TypeId} {u : TypeId} {ts : Array TypeId} (hd : C.P.underlying t = some (.map eh q3)) (ht : ts = #[t, u]) {am gR : aj} {bL : Nat} (ho : o.op = .call { callee := .builtin .delete, args := #[m, k], argTypes := ts })
  (h1 : C.bV vars m = some am) (h2 : C.bV vars k = some gR) (gh : C.iQ eh = some bL) (he : step ag H low (.w3 bL am gR) = some (v, H', low')) : dh C fid G H w low ((execOp ρ o).run C.P w) v H' low' := by
 subst ht
 have hm := aM m am h1
 have ai := aM k gR h2
 obtain ⟨FU, iy⟩ := FT gh
 have cf : (execOp ρ o).run C.P w = ((Builtin.delete_ #[t, u] o.type #[ρ m, ρ k]).run C.P w).andThen fun z w' => .ok (.value z) w' := by
  rw [xl ho]
  simp only [builtin, Sem.run_bind, JP, eD, n5]
  rfl
 simp only [step] at he
 split at he
 · rename_i ah
   simp only [aA, bw] at he
   obtain ⟨rfl, rfl, rfl⟩ := he
   rw [ah] at hm
   have hx := hm.KA
   refine .same aa (x := .tuple #[]) ?_ (.ba [] [] .nil)
   rw [cf, hx]
   unfold Builtin.delete_
   simp [run_underlying hd, sr gh, Sem.run_pure]
 · rename_i l ah
   rw [ah] at hm
   obtain ⟨h0, du, Rh, ef⟩ := hm.mapInv
   split at he
   · rename_i bk hl
     obtain ⟨aT, eS, hr⟩ := aa.obj l h0 du
     rw [hl] at eS; cases eS
     obtain ⟨ou, iV, es, bE, dn, ee, cO, cp⟩ := hr
     split at he
     · rename_i bN h7
       simp only [aA, bw] at he
       obtain ⟨rfl, rfl, rfl⟩ := he
       have aH : h0.b < w.heap.size := aa.blk l h0 du
       have fin : ∀ (ss : Obj) (bC : Array MapEntry), ss = .map bC bE -> (Builtin.delete_ #[t, u] o.type #[ρ m, ρ k]).run C.P w = .ok (.tuple #[]) { w with heap := w.heap.setIfInBounds h0.b ss } ->
         a6 fid G w ((hY bL (ag gR) bk).map (·.1)) (bC.toList.map (·.key)) -> a6 fid G w ((hY bL (ag gR) bk).map (·.2)) (bC.toList.map (·.val)) -> nx bC bE ->
         dh C fid G H w low ((execOp ρ o).run C.P w) (.ba []) (H.set l (.map (hY bL (ag gR) bk))) (min low l) := by
        rintro ss bC rfl pf vF xq xr
        have tU : ∀ b, b ≠ h0.b -> ({ w with heap := w.heap.setIfInBounds h0.b (.map bC bE) } : World).heap[b]? = w.heap[b]? := fun b bA => by
         show (w.heap.setIfInBounds h0.b _)[b]? = _
         rw [Px (ki bA)]
        have zQ : ({ w with heap := w.heap.setIfInBounds h0.b (.map bC bE) } : World).heap[h0.b]? = some (.map bC bE) := by
         show (w.heap.setIfInBounds h0.b _)[h0.b]? = _
         simp [aH]
        have dP : ({ w with heap := w.heap.setIfInBounds h0.b (.map bC bE) } : World).heap.size = w.heap.size := by simp
        have ed : Ext G w ⟨cg G.β l h0, G.I⟩ { w with heap := w.heap.setIfInBounds h0.b (.map bC bE) } l H.length :=
         Ext.write aa du iV rfl (aK _) id rfl dP tU rfl rfl
        refine ⟨.tuple #[], _, _, .inl (by rw [cf, pf]; rfl), bb.write aa du iV rfl iV (aK _) id rfl dP tU (.map (hY bL (ag gR) bk)) ⟨ou, iV, bC, bE, zQ, vF.ext aa ed, xq.ext aa ed, xr⟩,
         fun m hm => ed.le (c4 hm (asU _ _)) (aK _), .ba [] [] .nil, jA _ _, by simp⟩
       cases bN with
       | none =>
         have ae := qk gh iy ai 0 ee cO h7
         refine fin _ es rfl ?_ (by rw [zR h7]; exact ee) (by rw [zR h7]; exact cO) cp
         unfold Builtin.delete_
         simp only [ef]
         simp [run_underlying hd, vE dn, sr gh, tS (C := C) iy ae, zP _ dn, Sem.run_pure]
       | some r =>
         obtain ⟨j, y, ae, -, -⟩ := qk gh iy ai 0 ee cO h7
         obtain ⟨s1, s2⟩ := KX gh iy ai 0 ee cO h7 ae
         rw [eF] at ae
         refine fin _ (es.eraseIdxIfInBounds j) rfl ?_ (by simpa using s1) (by simpa using s2) (cp.erase _)
         unfold Builtin.delete_
         simp only [ef]
         simp [run_underlying hd, vE dn, sr gh, tS (C := C) iy ae, zP _ dn, Sem.run_pure]
     · cases he
   · cases he
 · cases he
theorem KY {P : Program} {w : World} (s : ByteArray) : (Builtin.lenOf (.string s)).run P w = .ok s.size w := rfl
theorem Rk {P : Program} {t u ty e : TypeId} {i : TypeInfo} (hd : P.underlying t = some (.slice e)) (hu : P.underlying u = some .string) (hi : P.info? e = some i) {base : Option Addr} {eA jI n : Nat} {s : ByteArray} {news : List Value} (hn : s.size = n)
  (hx : (Builtin.firstCells i.size n (.string s)).run P w = .ok news.toArray w) (lf : eA + n <= jI) :
  (Builtin.append_ #[t, u] ty #[.slice base eA jI, .string s]).run P w =
    ((match base with | some a => storeCells (a.add (eA * i.size)) news | none => pure ()).run P w).andThen fun _ w' => .ok (.slice base (eA + n) jI) w' := by
 subst hn
 cases base with
 | none => simp [Builtin.append_, run_underlying hd, run_underlying hu, sizeOf, typeInfo, hi, KY, lf, hx]
 | some a => simp [Builtin.append_, run_underlying hd, run_underlying hu, sizeOf, typeInfo, hi, KY, lf, hx]
theorem Rl {P : Program} {t u ty e : TypeId} {i : TypeInfo} {cF : Value} (hd : P.underlying t = some (.slice e)) (hu : P.underlying u = some .string) (hi : P.info? e = some i) (aP : i.zero = some cF)
  {base : Option Addr} {eA jI n : Nat} {s : ByteArray} {fc news : List Value} (hn : s.size = n)
  (hx : (Builtin.firstCells i.size n (.string s)).run P w.drew = .ok news.toArray w.drew) (ho : (Builtin.firstCells i.size eA (.slice base eA jI)).run P w.drew = .ok fc.toArray w.drew)
  (lf : jI < eA + n) (hb : (eA + n) * (i.bytes + 1) <= 1099511627776) :
  ∃ h6, eA + n <= h6 /\ (Builtin.append_ #[t, u] ty #[.slice base eA jI, .string s]).run P w =
    .ok (.slice (some ⟨w.heap.size, 0, none⟩) (eA + n) h6) (w.drew.alloc (.cells (fc.toArray ++ news.toArray ++ Builtin.zeroCells cF.cells (h6 - (eA + n))) e)) := by
 subst hn
 have h1 : ¬ eA + s.size <= jI := by omega
 have hm : (eA + s.size) * i.bytes + (eA + s.size) = (eA + s.size) * (i.bytes + 1) := by rw [Nat.mul_succ]
 have h2 : ¬ (((eA + s.size : Nat) : Int) > 9223372036854775807) := by omega
 have av := growslice_fits (need := eA + s.size) (old := jI) (bytes := i.bytes) lf (by omega)
 have bc : ¬ (281474976710656 < Builtin.nextslicecap (eA + s.size) jI * i.bytes) := by omega
 refine ⟨eA + s.size + (w.tape w.drawn (.appendCap (eA + s.size) jI e)) % (9223372036854775808 - (eA + s.size)), JO _ _, ?_⟩
 have vB : ¬ (9223372036854775807 < (eA : Int) + (s.size : Int)) := by omega
 simp [Builtin.append_, run_underlying hd, run_underlying hu, sizeOf, typeInfo, hi, KY, h1, vB, bc, Question.forced, Question.cut, hx, ho, zeroValue, aP, newRow]
 congr 2
 apply Array.ext'
 simp
theorem Rm {P : Program} {w : World} (size : Nat) (s : List UInt8) : (Builtin.firstCells size s.length (.string ⟨⟨s⟩⟩)).run P w = .ok (s.map fun b => Value.int .u8 b.toNat).toArray w := by
 have : (ByteArray.extract ⟨⟨s⟩⟩ 0 s.length) = ⟨⟨s⟩⟩ := by
  apply ByteArray.ext
  simp
 simp [Builtin.firstCells, this, Sem.run_pure]
theorem abo (aa : bb C fid G H w) (aM : fh C fid vars G w ag ρ) {a b : Operand} {t u e : TypeId} {i : TypeInfo} {cF : Value} {args : Array Operand} {ts : Array TypeId} (ho : o.op = .call { callee := .builtin .append, args, argTypes := ts })
  (ao : args = #[a, b]) (ht : ts = #[t, u]) {mP jJ : aj} (h1 : C.bV vars a = some mP) (h2 : C.bV vars b = some jJ) (hd : C.P.underlying t = some (.slice e)) (hu : C.P.underlying u = some .string) (hi : C.P.info? e = some i)
  (aP : i.zero = some cF) (tP : cF.cells.size = i.size) (sg : i.size = 1) (aqR : i.bytes = 1) (he : step ag H low (.BG mP jJ) = some (v, H', low')) : dh C fid G H w low ((execOp ρ o).run C.P w) v H' low' := by
 subst ao; subst ht
 have hx := aM a mP h1
 have hy := aM b jJ h2
 have jE : 0 < i.size := by omega
 have Cb : (execOp ρ o).run C.P w = ((Builtin.append_ #[t, u] o.type #[ρ a, ρ b]).run C.P w).andThen fun z w' => .ok (.value z) w' := by
  rw [xl ho]
  simp only [builtin, Sem.run_bind, JP, eD, n5]
  rfl
 simp only [step] at he
 split at he
 · rename_i s KZ
   rw [KZ] at hy
   have cf := Cb
   rw [hy.og] at cf
   have hn : (⟨⟨s⟩⟩ : ByteArray).size = s.length := rfl
   split at he
   · rename_i tQ
     have ov : s = [] := by simpa using tQ
     subst ov
     have same : ∀ base n cap, ρ a = .slice base n cap -> n <= cap -> (execOp ρ o).run C.P w = .ok (.value (ρ a)) w := by
      intro base n cap hs hle
      rw [cf, hs, Rk (P := C.P) hd hu hi (n := 0) rfl (Rm i.size []) (by simpa using hle)]
      cases base <;> simp [storeCells]
     split at he
     · rename_i ah
       simp only [aA, bw] at he
       obtain ⟨rfl, rfl, rfl⟩ := he
       rw [ah] at hx
       exact .same aa (same _ _ _ hx.jF (aK _)) hx
     · rename_i ah
       simp only [aA, bw] at he
       obtain ⟨rfl, rfl, rfl⟩ := he
       rw [ah] at hx
       obtain ⟨df, ef⟩ := hx.qY
       exact .same aa (same _ _ _ ef (aK _)) hx
     · rename_i l bC off len tag ah
       rw [ah] at hx
       split at he
       · rename_i eQ ds dW hl
         split at he
         · rename_i fK
           simp only [aA, bw] at he
           obtain ⟨rfl, rfl, rfl⟩ := he
           obtain ⟨h0, df, cL, cap, du, qX, jn, ef⟩ := hx.o7
           obtain ⟨aT, eS, hr⟩ := aa.obj l h0 du
           rw [hl] at eS; cases eS
           obtain ⟨rfl, rfl, -, qh⟩ := jn (hr.1.trans fK)
           exact .same aa (same _ _ _ ef qh) hx
         · cases he
       · cases he
     · cases he
   · rename_i tQ
     have ov : s ≠ [] := by simpa using tQ
     generalize eJ : (s.map fun c => V.int .u8 c.toNat) = eH at he
     generalize cO : (s.map fun c => Value.int .u8 c.toNat) = vals
     obtain ⟨xs, b2⟩ : ∃ xs : List V, eH.length = xs.length := ⟨eH, rfl⟩
     have iz : s.length = xs.length := by rw [<- b2, <- eJ, n4]
     have bA : 0 < eH.length := by rw [<- eJ, n4]; exact XA.2 ov
     have cn : a6 fid G w (eH.flatMap aG) vals := by
      subst eJ; subst cO
      clear ov tQ iz bA b2 he KZ hy cf hn
      induction s with
      | nil => exact .nil
      | cons c s ih => exact .cons _ _ _ _ (.p _ _ (.int _ _)) ih
     have kJ : ∀ d ∈ eH, (aG d).length = i.size := by
      intro d hd
      rw [<- eJ] at hd
      obtain ⟨c, -, rfl⟩ := ey.1 hd
      rw [sg]; rfl
     have bd : b4 (eH.flatMap aG) = true := by
      subst eJ
      have key : ∀ q : List UInt8, b4 ((q.map fun c => V.int .u8 c.toNat).flatMap aG) = true := fun q => by
       induction q with
       | nil => rfl
       | cons c s ih => exact (cd _ _).mpr ⟨rfl, ih⟩
      exact key s
     have vC : ∀ gY : World, gY.heap = w.heap -> (Builtin.firstCells i.size xs.length (.string ⟨⟨s⟩⟩)).run C.P gY = .ok vals.toArray gY := fun gY _ => by
      rw [<- iz, <- cO]; exact Rm i.size s
     have mQ : (⟨⟨s⟩⟩ : ByteArray).size = xs.length := hn.trans iz
     have K0 : i.bytes + 1 = 2 := by omega
     rw [<- sg] at he
     have KU := Ra cn bd
     have lh : vals.length = xs.length * i.size := by rw [cn.length, mK kJ, b2]
     have fresh : ∀ base, ρ a = .slice base 0 0 -> eH.length * (i.bytes + 1) <= 1099511627776 -> dh C fid G H w low ((execOp ρ o).run C.P w) (.cQ H.length i.size 0 eH.length eH.length) (H ++ [.row i.size eH false]) low := by
      intro base hs hb
      have hold : (Builtin.firstCells i.size 0 (.slice base 0 0)).run C.P w.drew = .ok ([] : List Value).toArray w.drew := by
       cases base <;> simp [Builtin.firstCells, loadCells, loadCellsFrom]
      obtain ⟨h6, hz, pf⟩ := Rl (P := C.P) (t := t) (u := u) (ty := o.type) hd hu hi aP mQ (vC w.drew rfl) hold (by omega) (by rw [eF, <- b2]; exact hb)
      rw [eF, <- b2] at pf hz
      refine dh.newRow aa (cap := h6) (e := e) jE bA kJ (vals := vals) (rest := (Builtin.zeroCells cF.cells (h6 - eH.length)).toList) ?_ cn ?_ hz (by rw [cf, hs, pf]; rfl)
      · simp
      · simp only [Bx, zm, qQ, eF, FO, lh, tP, <- b2, <- tl]
        rw [Nat.add_sub_cancel' hz]; exact aK _
     split at he
     · rename_i ah
       split at he
       · rename_i hb
         simp only [aA, bw] at he
         obtain ⟨rfl, rfl, rfl⟩ := he
         rw [ah] at hx
         exact fresh _ hx.jF (by rw [K0]; exact hb)
       · cases he
     · rename_i ah
       split at he
       · rename_i hb
         simp only [aA, bw] at he
         obtain ⟨rfl, rfl, rfl⟩ := he
         rw [ah] at hx
         obtain ⟨df, ef⟩ := hx.qY
         exact fresh _ ef (by rw [K0]; exact hb)
       · cases he
     · rename_i l bC off len tag ah
       rw [ah] at hx
       split at he
       · rename_i eQ ds hl
         split at he
         · rename_i en
           obtain ⟨rfl, rfl, fK, rfl, rfl, hb⟩ := en
           simp only [aA, bw] at he
           obtain ⟨rfl, rfl, rfl⟩ := he
           obtain ⟨h0, df, cL, cap, du, qX, jn, ef⟩ := hx.o7
           obtain ⟨aT, eS, hr⟩ := aa.obj l h0 du
           rw [hl] at eS; cases eS
           obtain ⟨B9, Rb, hfz, fL, me, c, tR, j3, rest, hc, fA, kl, fg⟩ := hr
           obtain ⟨rfl, rfl, qe, qh⟩ := jn (B9.trans fK)
           rw [Nat.zero_mul] at ef
           rw [eF] at qe
           have kK : ds.length = cL := fK
           have om : j3.length = cL * i.size := by rw [fg.length, mK me, kK]
           have j2 : c.size = j3.length + rest.length := by rw [<- gW, kl, kg]
           have sn : ∀ d ∈ ds ++ eH, (aG d).length = i.size := fun d hd => by
            rcases jV.1 hd with q | q
            · exact me d q
            · exact kJ d q
           have Ca : a6 fid G w ((ds ++ eH).flatMap aG) (j3 ++ vals) := by rw [JI]; exact fg.append cn
           by_cases lf : cL + xs.length <= cap
           ·
            have hmul : (cL + xs.length) * i.size <= c.size := c4 (JG _ lf) (by rw [<- fA]; exact qe)
            rw [tl] at hmul
            have cp := run_storeCells_at C.P h0.b (cL * i.size) tR vals 0 c w hc (by omega) KU
            have hval : (execOp ρ o).run C.P w = .ok (.value (.slice (some ⟨h0.b, 0, none⟩) (cL + xs.length) cap)) (w.setRow h0.b (c.toList.take (cL * i.size) ++ vals ++ c.toList.drop (cL * i.size + vals.length)).toArray) := by
             rw [cf, ef, Rk (P := C.P) hd hu hi mQ (vC w rfl) lf]
             simp only [Addr.add_lit, eF]
             simp only [zr] at cp
             rw [cp]; rfl
            have ed : Ext G w ⟨cg G.β l { h0 with tag := cL + eH.length }, G.I⟩ (w.setRow h0.b (c.toList.take (cL * i.size) ++ vals ++ c.toList.drop (cL * i.size + vals.length)).toArray) l H.length :=
             Ext.write aa du hfz rfl (by simp only; omega) (fun q => by omega) rfl (setRow_size _ _) (fun b bA => setRow_other bA _) rfl rfl
            refine ⟨_, _, _, .inl hval, bb.write aa du hfz (h' := { h0 with tag := cL + eH.length }) rfl hfz (by simp only; omega) (fun q => by omega) rfl (setRow_size _ _) (fun b bA => setRow_other bA _) (.row i.size (ds ++ eH) false) ?_,
             fun m hm => ed.le (c4 hm (asU _ _)) (aK _), ?_, jA _ _, by simp⟩
            · refine ⟨by simp [kK], by simp; omega, hfz, fL, sn, _, tR, j3 ++ vals, rest.drop vals.length, setRow_heap w h0.b c _ tR _ hc, ?_, ?_, Ca.ext aa ed⟩
              · show h0.ff = _
                rw [fA]
                simp only [zm, kg, qP, oW, gW]
                omega
              · rw [PF, kl, <- om, List.take_left, PN, mb, mb]
                congr 2
                rw [Y8 (by omega), oZ]
                congr 1; omega
            · rw [<- b2]
              exact .cQ l i.size 0 _ _ { h0 with tag := cL + eH.length } _ _ _ (de _ _ _) (aK _) (fun _ => ⟨by simp, rfl, by rw [eF]; exact qe, by omega⟩)
           ·
            have hold : (Builtin.firstCells i.size cL (.slice (some ⟨h0.b, 0, none⟩) cL cap)).run C.P w.drew = .ok j3.toArray w.drew :=
             KT (asJ.xc (w := w.drew) hc kl) om
            obtain ⟨h6, hz, pf⟩ := Rl (P := C.P) (t := t) (u := u) (ty := o.type) hd hu hi aP mQ (vC w.drew rfl) hold (by omega) (by rw [<- b2, K0]; exact hb)
            have xp : bb C fid G H w.drew := aa.la rfl
            have dw : ∀ m n, Ext G w G w.drew m n := fun m n => Ext.la (w := w) (w' := w.drew) rfl rfl rfl m n
            obtain ⟨bG, ch⟩ := bb.move xp du hfz (.cells (j3.toArray ++ vals.toArray ++ Builtin.zeroCells cF.cells (h6 - (cL + xs.length))) e) (cL + eH.length)
             (j3.toArray ++ vals.toArray ++ Builtin.zeroCells cF.cells (h6 - (cL + xs.length))).size (by omega) (by omega) (.row i.size (ds ++ eH) false)
             ⟨by simp [kK], by simp; omega, rfl, fL, sn, _, e, j3 ++ vals, (Builtin.zeroCells cF.cells (h6 - (cL + xs.length))).toList, oe _ _, rfl, by simp, a6.mono (G := G) (w := w.drew) (G' := ⟨cg G.β l ⟨w.drew.heap.size, cL + eH.length, (j3.toArray ++ vals.toArray ++ Builtin.zeroCells cF.cells (h6 - (cL + xs.length))).size, false⟩, G.I⟩) (by
              intro x eK ez
              by_cases h4 : x = l
              · subst h4; rw [du] at ez; cases ez
                exact ⟨_, de _ _ _, by simp only; omega, fun q => by omega, fun q => by simp only at q; omega, fun q => by rw [hfz] at q; cases q⟩
              · exact ⟨eK, by simp only [dp h4]; exact ez, aK _, id, fun _ => ⟨rfl, rfl⟩, fun _ => rfl⟩) (fun b sq => ⟨sq, alloc_old (w := w.drew) (xp.cX b sq).1⟩) (Ca.ext aa (dw 0 0))⟩
            refine ⟨_, _, _, .inl (by rw [cf, ef, pf]; rfl), bG, fun m hm => (dw m H.length).trans (ch.le (c4 hm (asU _ _)) (aK _)), ?_, jA _ _, by simp⟩
            rw [<- b2]
            refine .cQ l i.size 0 _ _ ⟨w.drew.heap.size, cL + eH.length, _, false⟩ _ _ _ (de _ _ _) (aK _) (fun _ => ⟨by simp, rfl, ?_, by omega⟩)
            simp only [Bx, zm, FO, lh, om, tP, <- tl, eF]
            have tL : cL + xs.length + (h6 - (cL + eH.length)) = h6 := by omega
            rw [tL]; exact aK _
         · cases he
       · cases he
     · cases he
 · cases he
end Go.Abs
namespace Go.Abs
open Go
variable {C : Ctx} {fid : Nat -> Nat} {w w' : World} {G G' : bT} {H : Heap}
section
variable {vars : List Nat} {ag : aj -> V} {ρ : Operand -> Value} {low low' : Nat} {v : V} {H' : Heap} {pos : String} {c7 : cH} {o : Oper}
theorem su {α : Type} {a : Array α} {x y : α} (h : a.toList = [x, y]) : a = #[x, y] := by cases a; simp_all
theorem zS {α : Type} {a : Array α} {x : α} (h : a.toList = [x]) : a = #[x] := by cases a; simp_all
theorem abp (aa : bb C fid G H w) (aM : fh C fid vars G w ag ρ) {b : Builtin} {args : Array Operand} {ts : Array TypeId} (ho : o.op = .call { callee := .builtin b, args, argTypes := ts })
  (hc : C.builtin vars b args ts = some c7) (he : step ag H low c7 = some (v, H', low')) : dh C fid G H w low ((execOp ρ o).run C.P w) v H' low' := by
 unfold Ctx.builtin at hc
 split at hc
 · rename_i x t ao ht
   split at hc
   · rename_i hu
     obtain ⟨cv, hx, rfl⟩ := cD.1 hc
     exact KO aa aM ho (zS ao) (zS ht) hx (by simpa using hu) he
   · rename_i e hu
     obtain ⟨cv, hx, rfl⟩ := cD.1 hc
     exact KO aa aM ho (zS ao) (zS ht) hx (by simpa using ⟨e, hu⟩) he
   · rename_i k e hu
     obtain ⟨cv, hx, rfl⟩ := cD.1 hc
     exact KO aa aM ho (zS ao) (zS ht) hx (by simpa using ⟨k, e, hu⟩) he
   · cases hc
 · rename_i a b t u ao ht
   split at hc
   · rename_i e e' h1 h2
     split at hc
     · rename_i i mP jJ hi hx hy
       split at hc
       · cases hc
       · rename_i hn
         simp only [aA] at hc; subst hc
         have zT : i.size ≠ 0 /\ i.zero.map (fun z => z.cells.size) = some i.size := by
          simp only [kG, decide_eq_true_eq, bne_iff_ne, ne_eq, not_or, Decidable.not_not] at hn
          exact hn
         obtain ⟨cF, aP, tP⟩ := cD.1 zT.2
         exact aa9 aa aM ho (su ao) (su ht) hx hy h1 h2 hi aP tP (PI zT.1) he
     · cases hc
   · rename_i e h1 h2
     split at hc
     · rename_i i mP jJ hi hx hy
       split at hc
       · rename_i hn
         simp only [aA] at hc; subst hc
         simp only [cd, beq_iff_eq] at hn
         obtain ⟨⟨mR, K1⟩, FW⟩ := hn
         have mR : i.size = 1 := by simpa using mR
         obtain ⟨cF, aP, tP⟩ := cD.1 FW
         exact abo aa aM ho (su ao) (su ht) hx hy h1 h2 hi aP (by rw [tP, mR]) mR K1 he
       · cases hc
     · cases hc
   · cases hc
 · rename_i m k t u ao ht
   split at hc
   · rename_i eh q3 am gR h1 h2 av
     obtain ⟨bL, gh, rfl⟩ := cD.1 hc
     have gF := su ao
     subst gF
     exact abn aa aM h1 (su ht) ho h2 av gh he
   · cases hc
 · cases hc
 · rename_i a b ao
   split at hc
   · rename_i mP jJ hx hy
     simp only [aA] at hc; subst hc
     exact QY aa aM ho (su ao) (mx := true) rfl hx hy he
   · cases hc
 · rename_i a b t u ao ht
   split at hc
   · rename_i e e' h1 h2
     split at hc
     · rename_i n mP jJ hi hx hy
       split at hc
       · cases hc
       · simp only [aA] at hc; subst hc
         exact abb (e' := e') aa aM ho (su ao) (su ht) hx hy h1 hi he
     · cases hc
   · cases hc
 · rename_i a b ao
   split at hc
   · rename_i mP jJ hx hy
     simp only [aA] at hc; subst hc
     exact QY aa aM ho (su ao) (mx := false) rfl hx hy he
   · cases hc
 · cases hc
theorem abq (bx : eR C fid) (aa : bb C fid G H w) (aM : fh C fid vars G w ag ρ) (ix : low <= H.length)
  (he : step ag H low (C.op vars pos o.op) = some (v, H', low')) : dh C fid G H w low ((execOp ρ o).run C.P w) v H' low' := by
 unfold Ctx.op at he
 cases hc : C.cI vars pos o.op with
 | none => rw [hc] at he; simp [step] at he
 | some c7 =>
   rw [hc] at he
   simp only [vg] at he
   cases cV : o.op with
   | move x => exact QO aa aM (.inl cV) hc he
   | assign x => exact QO aa aM (.inr cV) hc he
   | pick c a b => exact aah aa aM cV hc he
   | alloc t => exact aas aa cV hc he
   | box t x => exact aat aa aM cV hc he
   | build t parts => exact aa0 aa aM cV hc he
   | buildSlice t l parts => exact aa1 aa aM cV hc he
   | load t a => exact aaq aa aM cV hc he
   | store t a x => exact aar aa aM cV hc ix he
   | nilCheck x => exact aai aa aM cV hc he
   | binOp a b c d e => exact aaF aa aM cV hc he
   | unOp a b c => exact aaj aa aM cV hc he
   | convert a b c =>
     rcases (show (∃ x, c7 = .tn x) \/ ∀ x, c7 ≠ .tn x from by
      cases c7 <;> first | exact .inl ⟨_, rfl⟩ | exact .inr (by simp)) with ⟨x, rfl⟩ | hnb
     · exact abl aa aM cV hc he
     · exact aak aa aM cV hnb hc he
   | makeInterface a b => exact aal aa aM cV hc he
   | makeFunc a b c => exact aam bx aa aM cV hc he
   | makeMap a b => exact aau aa cV hc he
   | makeSlice a b c => exact aa6 aa aM cV hc he
   | slice a b c d e => exact aaP aa aM cV hc he
   | fieldAddr a b c => exact aap aa aM cV hc he
   | field a b c => exact aao aa aM cV hc he
   | indexAddr a b c => exact aaS aa aM cV hc he
   | index a b c => exact aav aa aM cV hc he
   | lookup a b c d => exact abe aa aM cV hc he
   | mapUpdate a b c d => exact Rg aa aM (.inl cV) hc he
   | insert a b c d => exact Rg aa aM (.inr cV) hc he
   | extract a b => exact aan aa aM cV hc he
   | call c =>
     rw [cV] at hc
     obtain ⟨callee, args, dQ⟩ := c
     cases callee with
     | builtin b => exact abp aa aM cV hc he
     | value f =>
       simp only [Ctx.cI] at hc
       split at hc
       · simp only [aA] at hc; subst hc; simp [step] at he
       · cases hc
     | _ => simp [Ctx.cI] at hc
   | _ => rw [cV] at hc; simp [Ctx.cI] at hc
end
end Go.Abs
