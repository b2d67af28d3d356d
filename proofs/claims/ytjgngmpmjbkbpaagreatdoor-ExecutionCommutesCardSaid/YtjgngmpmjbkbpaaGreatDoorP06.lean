/- Texts of this claim, joined and written short by a program. -/
import Derived.Test.YtjgngmpmjbkbpaaGreatDoorP05
import Derived.Laws.Append
import Derived.Test.YtjgngmpmjbkbpaaGreatDoorP00
set_option linter.unusedVariables false
set_option linter.unusedSimpArgs false
set_option linter.unusedSectionVars false
namespace Go.Abs
open Go
variable {C : Ctx} {fid : Nat -> Nat} {w w' : World} {G G' : bT} {H : Heap}
variable {vars : List Nat} {ag : aj -> V} {ρ : Operand -> Value} {low low' : Nat} {v : V} {H' : Heap} {pos : String} {c7 : cH} {o : Oper}
theorem c6.split : ∀ {vs us : List V} {dc : List Value} {I : Nat -> Prop}, c6 w I (vs ++ us) dc -> ∃ xs cN, dc = xs ++ cN /\ c6 w I vs xs /\ c6 w I us cN
 | [], us, dc, _, h => ⟨[], dc, rfl, .nil, h⟩
 | v :: vs, us, _, _, .cons _ x _ xs h hs => by
   obtain ⟨aY, aL, rfl, h1, h2⟩ := c6.split (vs := vs) hs
   exact ⟨x :: aY, aL, rfl, .cons v x vs aY h h1, h2⟩
theorem aaS (aa : bb C fid G H w) (aM : fh C fid vars G w ag ρ) {t : TypeId} {x i : Operand} (ho : o.op = .indexAddr t x i) (hc : C.cI vars pos o.op = some c7) (he : step ag H low c7 = some (v, H', low')) :
  dh C fid G H w low ((execOp ρ o).run C.P w) v H' low' := by
 rw [ho] at hc
 simp only [Ctx.cI] at hc
 split at hc
 · rename_i e cv iU hd h2 av
   split at hc
   · rename_i n hn
     split at hc
     · cases hc
     · simp only [aA] at hc; subst hc
       have ld := xk (C := C) hn
       have hx := aM x cv h2
       have hi := aM i iU av
       simp only [step] at he
       split at he
       · rename_i j aaT
         obtain ⟨k, m, em, hm, aaU⟩ := Kz aaT
         rw [em] at hi
         have cf : ∀ df len cap, ρ x = .slice (some df) len cap -> j < len -> (execOp ρ o).run C.P w = .ok (.value (.pointer (some (df.add (j * n))))) w := by
          intro df len cap ef aH
          have en : 0 <= m /\ m < (len : Int) := by omega
          unfold execOp; rw [ho]
          simp only [ef, hi.jm, Instr.indexAt, asIntOf, Sem.run_bind, Sem.run_pure, Result.andThen_ok, run_underlying hd, en, and_self, if_true, ld, aaU]
         split at he
         · rename_i bC ds ah
           split at he
           · rename_i fL
             subst fL
             obtain ⟨d, B2, he⟩ := cD.1 he
             simp only [bw] at he
             obtain ⟨rfl, rfl, rfl⟩ := he
             rw [ah] at hx
             obtain ⟨df, cap, ef, hz, bD⟩ := hx.vy
             obtain ⟨aH, aaV⟩ := fy.1 B2
             rcases bD with rfl | ⟨b, o', vals, rfl, aZ, hcell, hu, hr⟩
             · simp at aH
             · refine .same aa (cf _ _ _ ef aH) ?_
               rw [Addr.add_lit]
               have h2 : ds.drop j = d :: ds.drop (j + 1) := by rw [<- aaV]; exact oU aH
               have av := hr.drop (j * bC)
               rw [<- xb hu, h2, kF] at av
               obtain ⟨xs, cN, B3, aaW, -⟩ := av.split
               have hB := hcell.drop (j * bC)
               rw [B3] at hB
               have aaX : asJ w b (o' + j * bC) xs := fun a c QX => hB a c (by
                rw [hq (by
                 rcases gg a xs.length with q | q
                 · exact q
                 · simp [mF q] at QX)]; exact QX)
               exact .dB _ 0 b (o' + j * bC) xs aZ aaX aaW
           · cases he
         · rename_i l bC off len tag ah
           split at he
           · rename_i eQ ds dW hl
             split at he
             · rename_i en
               obtain ⟨rfl, rfl, fK, oj, om⟩ := en
               simp only [aA, bw] at he
               obtain ⟨rfl, rfl, rfl⟩ := he
               rw [ah] at hx
               obtain ⟨h0, df, cL, cap, du, qX, jn, ef⟩ := hx.o7
               obtain ⟨aT, eS, hr⟩ := aa.obj l h0 du
               rw [hl] at eS; cases eS
               obtain ⟨rfl, rfl, fA, qh⟩ := jn (hr.1.trans fK)
               refine .same aa (cf _ _ _ ef oj) (.gw l _ (off + j) 0 tag h0 _ du qX (fun _ => ?_))
               rw [Addr.add_lit, zr, tl]
             · cases he
           · cases he
         · cases he
       · cases he
   · cases hc
 · cases hc
theorem xl {b : Builtin} {args : Array Operand} {ts : Array TypeId} (ho : o.op = .call { callee := .builtin b, args, argTypes := ts }) :
  (execOp ρ o).run C.P w = (builtin b ts o.type (args.map fun | .const _ => true | _ => false) (args.map ρ)).run C.P w := by
 unfold execOp; rw [ho]
 simp only [resolve, invoke, Sem.run_bind, Sem.run_pure, Result.andThen_ok]
 rfl
theorem QY (aa : bb C fid G H w) (aM : fh C fid vars G w ag ρ) {b : Builtin} {x y : Operand} {args : Array Operand} {ts : Array TypeId} (ho : o.op = .call { callee := .builtin b, args, argTypes := ts })
  (ao : args = #[x, y]) {mx : Bool} (hb : b = if mx then .max else .min) {cv km : aj} (h1 : C.bV vars x = some cv) (h2 : C.bV vars y = some km) (he : step ag H low (.tp mx cv km) = some (v, H', low')) :
  dh C fid G H w low ((execOp ρ o).run C.P w) v H' low' := by
 subst ao
 have hx := aM x cv h1
 have hy := aM y km h2
 simp only [step] at he
 split at he
 · rename_i k a bs eE ah e2
   split at he
   · rename_i ai
     subst ai
     simp only [aA, bw] at he
     obtain ⟨rfl, rfl, rfl⟩ := he
     rw [ah] at hx; rw [e2] at hy
     refine .same aa (x := .int k (if mx then max a eE else min a eE)) ?_ (.p _ _ (.int _ _))
     rw [xl ho]
     subst hb
     cases mx
     · have hm : (if eE < a then eE else a) = min a eE := by
        rw [Int.min_def]; split <;> split <;> omega
       simp [builtin, Builtin.min_, Builtin.min2, hx.jm, hy.jm, hm]
     · have hm : (if a < eE then eE else a) = max a eE := by
        rw [Int.max_def]; split <;> split <;> omega
       simp [builtin, Builtin.max_, Builtin.max2, hx.jm, hy.jm, hm]
   · cases he
 · cases he
theorem KO (aa : bb C fid G H w) (aM : fh C fid vars G w ag ρ) {x : Operand} {t : TypeId} {args : Array Operand} {ts : Array TypeId} (ho : o.op = .call { callee := .builtin .len, args, argTypes := ts })
  (ao : args = #[x]) (ht : ts = #[t]) {cv : aj} (h1 : C.bV vars x = some cv) {kind : Nat} (ai : match kind with | 0 => C.P.underlying t = some .string | 1 => ∃ e, C.P.underlying t = some (.slice e) | _ => ∃ k e, C.P.underlying t = some (.map k e))
  (he : step ag H low (.len kind cv) = some (v, H', low')) : dh C fid G H w low ((execOp ρ o).run C.P w) v H' low' := by
 subst ao; subst ht
 have hx := aM x cv h1
 have cf : ∀ (n : Nat), (Builtin.len_ #[t] o.type #[ρ x]).run C.P w = .ok (goInt n) w -> dh C fid G H w low ((execOp ρ o).run C.P w) (.int .i64 n) H low := by
  intro n hn
  refine .same aa (x := .int .i64 n) ?_ (.p _ _ (.int _ _))
  rw [xl ho]
  simp only [builtin, Sem.run_bind]
  have e : Array.map ρ #[x] = #[ρ x] := by simp
  rw [e, hn]; rfl
 simp only [step] at he
 split at he
 · rename_i s ah
   simp only [aA, bw] at he
   obtain ⟨rfl, rfl, rfl⟩ := he
   rw [ah] at hx
   refine cf s.length ?_
   have ai : C.P.underlying t = some .string := ai
   simp only [Builtin.len_, hx.og, Sem.run_bind, run_underlying ai, Result.andThen_ok, te, pV, Sem.run_pure]
   rfl
 · rename_i ah
   simp only [aA, bw] at he
   obtain ⟨rfl, rfl, rfl⟩ := he
   rw [ah] at hx
   obtain ⟨e, ai⟩ : ∃ e, C.P.underlying t = some (.slice e) := ai
   refine cf 0 ?_
   simp only [Builtin.len_, hx.jF, Sem.run_bind, run_underlying ai, Result.andThen_ok, te, pV, Sem.run_pure]
 · rename_i ah
   simp only [aA, bw] at he
   obtain ⟨rfl, rfl, rfl⟩ := he
   rw [ah] at hx
   obtain ⟨e, ai⟩ : ∃ e, C.P.underlying t = some (.slice e) := ai
   obtain ⟨df, ef⟩ := hx.qY
   refine cf 0 ?_
   simp only [Builtin.len_, ef, Sem.run_bind, run_underlying ai, Result.andThen_ok, te, pV, Sem.run_pure]
 · rename_i es ds ah
   simp only [aA, bw] at he
   obtain ⟨rfl, rfl, rfl⟩ := he
   rw [ah] at hx
   obtain ⟨e, ai⟩ : ∃ e, C.P.underlying t = some (.slice e) := ai
   obtain ⟨df, cap, ef, -, -⟩ := hx.vy
   refine cf ds.length ?_
   simp only [Builtin.len_, ef, Sem.run_bind, run_underlying ai, Result.andThen_ok, te, pV, Sem.run_pure]
 · rename_i l es off len tag ah
   obtain ⟨e, ai⟩ : ∃ e, C.P.underlying t = some (.slice e) := ai
   split at he
   · rename_i bC ds dW hl
     split at he
     · rename_i en
       simp only [aA, bw] at he
       obtain ⟨rfl, rfl, rfl⟩ := he
       rw [ah] at hx
       obtain ⟨h0, df, cL, cap, du, qX, jn, ef⟩ := hx.o7
       obtain ⟨aT, eS, hr⟩ := aa.obj l h0 du
       rw [hl] at eS; cases eS
       obtain ⟨rfl, rfl, fA, qh⟩ := jn (hr.1.trans en.2)
       refine cf cL ?_
       simp only [Builtin.len_, ef, Sem.run_bind, run_underlying ai, Result.andThen_ok, te, pV, Sem.run_pure]
     · cases he
   · cases he
 · rename_i ah
   simp only [aA, bw] at he
   obtain ⟨rfl, rfl, rfl⟩ := he
   rw [ah] at hx
   obtain ⟨k, e, ai⟩ : ∃ k e, C.P.underlying t = some (.map k e) := ai
   refine cf 0 ?_
   simp only [Builtin.len_, hx.KA, Sem.run_bind, run_underlying ai, Result.andThen_ok, te, pV, Sem.run_pure]
   rfl
 · rename_i l ah
   obtain ⟨k, e, ai⟩ : ∃ k e, C.P.underlying t = some (.map k e) := ai
   split at he
   · rename_i bk hl
     simp only [aA, bw] at he
     obtain ⟨rfl, rfl, rfl⟩ := he
     rw [ah] at hx
     obtain ⟨h0, du, -, ef⟩ := hx.mapInv
     obtain ⟨aT, eS, hr⟩ := aa.obj l h0 du
     rw [hl] at eS; cases eS
     obtain ⟨-, -, es, bE, hm, hL, xm, -⟩ := hr
     have hlen := hL.length
     simp only [n4, gW] at hlen
     refine cf bk.length ?_
     have bt : (getObj h0.b).run C.P w = .ok (.map es bE) w := by simp [getObj, Sem.run, hm]
     simp only [Builtin.len_, ef, Sem.run_bind, run_underlying ai, Result.andThen_ok, te, pV, bt, Sem.run_pure, hlen]
   · cases he
 · cases he
end Go.Abs
namespace Go.Abs
open Go
variable {C : Ctx} {fid : Nat -> Nat} {w w' : World} {G G' : bT} {H : Heap}
variable {vars : List Nat} {ag : aj -> V} {ρ : Operand -> Value} {low low' : Nat} {v : V} {H' : Heap} {pos : String} {c7 : cH} {o : Oper}
theorem QZ (off : Nat) : ∀ (dc : List Value) (k : Nat) (cells : Array Value), off + k + dc.length <= cells.size ->
  ((dc.zipIdx k).foldl (fun (cs : Array Value) (p : Value × Nat) => cs.setIfInBounds (off + p.2) p.1) cells).toList = cells.toList.take (off + k) ++ dc ++ cells.toList.drop (off + k + dc.length)
 | [], k, cells, _ => by simp
 | z :: dc, k, cells, h => by
   simp only [iv] at h
   rw [List.zipIdx_cons, vi, QZ off dc (k + 1) _ (by simp; omega)]
   have e := list_seg_step cells.toList (off + k) z dc (by simp; omega)
   rw [iv]
   simpa [Array.toList_setIfInBounds, p4] using e
theorem Q0 {place : Nat -> Option (Nat × Nat)} {cells : Array Value} {i : Nat} {x : Value} {rest : List (Nat × Value)} {off n : Nat} (hp : place i = some (off, n)) (hs : x.cells.size = n) (lf : off + n <= cells.size) :
  ∃ qi, Instr.fill place cells ((i, x) :: rest) = Instr.fill place qi rest /\ qi.toList = cells.toList.take off ++ x.cells.toList ++ cells.toList.drop (off + x.cells.toList.length) := by
 refine ⟨x.cells.zipIdx.foldl (fun cs (c, j) => cs.setIfInBounds (off + j) c) cells, ?_, ?_⟩
 · have : ¬ (x.cells.size ≠ n || decide (off + x.cells.size > cells.size)) = true := by simp; omega
   simp only [Instr.fill, hp]
   rw [if_neg (by simpa using this)]
 · rw [<- PH, Array.toList_zipIdx]
   have := QZ off x.cells.toList 0 cells (by simp; omega)
   simpa using this
theorem Q1 {place : Nat -> Option (Nat × Nat)} : ∀ {ps : List (Nat × Value)} {aY : List (Nat × Nat × V)} {cs cs' : List V} {cells : Array Value}, ps.length = aY.length ->
  (∀ (j : Nat) p a, ps[j]? = some p -> aY[j]? = some a -> place p.1 = some (a.1, a.2.1) /\ bg fid G w a.2.2 p.2) -> a6 fid G w cs cells.toList -> tu cs aY = some cs' ->
  ∃ qi, Instr.fill place cells ps = some qi /\ a6 fid G w cs' qi.toList
 | [], [], cs, cs', cells, _, _, af, h => by
   simp only [tu, aA] at h; subst h
   exact ⟨cells, rfl, af⟩
 | [], _ :: _, _, _, _, hl, _, _, _ => by simp at hl
 | _ :: _, [], _, _, _, hl, _, _, _ => by simp at hl
 | (i, x) :: ps, (off, n, u) :: aY, cs, cs', cells, hl, hp, af, h => by
   simp only [tu] at h
   split at h
   · rename_i hc
     obtain ⟨zO, FL⟩ := hp 0 _ _ rfl rfl
     obtain ⟨bG, ch⟩ := zJ FL hc.2.2
     have j2 := af.length
     have h4 := bG.length
     have eJ : x.cells.size = n := by rw [<- gW]; simp only at h4; rw [h4, hc.1]
     obtain ⟨KP, ah, e2⟩ := Q0 (rest := ps) zO eJ (by rw [<- gW, j2]; exact hc.2.1)
     have qj : a6 fid G w (setCells cs off (aG u)) KP.toList := by rw [e2]; exact BU off af bG (by rw [hc.1]; exact hc.2.1)
     obtain ⟨qi, b5, cU⟩ := Q1 (by simpa using hl) (fun j p a h1 h2 => hp (j + 1) p a (by simpa using h1) (by simpa using h2)) qj h
     exact ⟨qi, by rw [ah, b5], cU⟩
   · cases h
theorem aaY : ∀ (xs cs : List V), xs.length = cs.length -> setCells cs 0 xs = xs := by
 have key : ∀ (xs a b : List V), xs.length = b.length -> setCells (a ++ b) a.length xs = a ++ xs := by
  intro xs
  induction xs with
  | nil => intro a b h; cases b <;> simp_all [setCells]
  | cons x xs ih =>
    intro a b h
    cases b with
    | nil => simp at h
    | cons y b =>
      have := ih (a ++ [x]) b (by simpa using h)
      simp only [setCells]
      simpa using this
 intro xs cs h
 simpa using key xs [] cs h
theorem Q2 {es : Nat} : ∀ {ps : List (Nat × Value)} {aY : List (Nat × V)} {ds ds' : List V} {cells : Array Value}, ps.length = aY.length ->
  (∀ (j : Nat) p a, ps[j]? = some p -> aY[j]? = some a -> p.1 = a.1 /\ bg fid G w a.2 p.2) -> (∀ d ∈ ds, (aG d).length = es) -> a6 fid G w (ds.flatMap aG) cells.toList -> tv es ds aY = some ds' ->
  ∃ qi, Instr.fill (fun i => some (i * es, es)) cells ps = some qi /\ a6 fid G w (ds'.flatMap aG) qi.toList /\ (∀ d ∈ ds', (aG d).length = es) /\ ds'.length = ds.length
 | [], [], ds, ds', cells, _, _, hu, af, h => by
   simp only [tv, aA] at h; subst h
   exact ⟨cells, rfl, af, hu, rfl⟩
 | [], _ :: _, _, _, _, hl, _, _, _, _ => by simp at hl
 | _ :: _, [], _, _, _, hl, _, _, _, _ => by simp at hl
 | (i, x) :: ps, (w5, u) :: aY, ds, ds', cells, hl, hp, hu, af, h => by
   simp only [tv] at h
   split at h
   · rename_i hc
     obtain ⟨zO, FL⟩ := hp 0 _ _ rfl rfl
     simp only at zO FL; subst zO
     obtain ⟨bG, ch⟩ := zJ FL hc.2.2
     have j2 := af.length
     have lg := mK hu
     have h4 := bG.length
     have eJ : x.cells.size = es := by rw [<- gW, h4, hc.1]
     have hi : i * es + es <= ds.length * es := by
      have : (i + 1) * es <= ds.length * es := JG _ hc.2.1
      rw [BD] at this; exact this
     obtain ⟨KP, ah, e2⟩ := Q0 (place := fun i => some (i * es, es)) (cells := cells) (rest := ps) (i := i) rfl eJ (by rw [<- gW, j2]; omega)
     obtain ⟨d, hd⟩ : ∃ d, ds[i]? = some d := ⟨_, oV hc.2.1⟩
     have si := Kw hu hd (d' := u) (f := 0) (xs := aG u) (by rw [hc.1]; omega) (aaY _ _ (by rw [hc.1, hu d (fm hd)])).symm
     rw [zr] at si
     have qj : a6 fid G w ((ds.set i u).flatMap aG) KP.toList := by rw [e2, si]; exact BU _ af bG (by rw [hc.1]; omega)
     obtain ⟨qi, b5, cU, ej, jH⟩ := Q2 (by simpa using hl) (fun j p a h1 h2 => hp (j + 1) p a (by simpa using h1) (by simpa using h2))
      (fun a ao => by rcases List.mem_or_eq_of_mem_set ao with q | rfl; exact hu a q; exact hc.1) qj h
     exact ⟨qi, by rw [ah, b5], cU, ej, by rw [jH]; simp⟩
   · cases h
theorem Q3 {α β : Type} (f : α -> Sem β) (g : α -> β) : ∀ (l : List α), (∀ a ∈ l, ∀ w, (f a).run C.P w = .ok (g a) w) -> (l.mapM f).run C.P w = .ok (l.map g) w
 | [], _ => by simp
 | a :: l, h => by
   rw [List.mapM_cons, Sem.run_bind, h a (by simp), Result.andThen_ok, Sem.run_bind, Q3 f g l (fun b hb => h b (by simp [hb])), Result.andThen_ok, Sem.run_pure]; rfl
theorem aaZ {α β : Type} (f : α -> Sem β) (g : α -> β) (l : Array α) (h : ∀ a ∈ l.toList, ∀ w, (f a).run C.P w = .ok (g a) w) : (l.mapM f).run C.P w = .ok (l.map g) w := by
 rw [Array.mapM_eq_mapM_toList, Sem.run_map, Q3 f g _ h, Result.andThen_ok]
 congr 1
 apply Array.ext'
 simp
theorem B4 {t : TypeId} {z : List V} (aP : C.zeroCells t = some z) : ∃ cF, (∀ w, (zeroValue t).run C.P w = .ok cF w) /\ (∀ (G : bT) (w : World), a6 fid G w z cF.cells.toList) /\ b4 z = true /\
  ∃ i, C.P.info? t = some i /\ i.zero = some cF := by
 unfold Ctx.zeroCells at aP
 split at aP
 · rename_i i hi
   split at aP
   · rename_i cF zK
     split at aP
     · rename_i vs cO
       split at aP
       · rename_i bd
         simp only [aA] at aP; subst aP
         refine ⟨cF, fun w => ?_, fun G w => c6.od (FF _ cO), bd, i, hi, zK⟩
         simp only [zeroValue, Sem.run_bind, run_typeInfo (P := C.P) w hi, Result.andThen_ok, zK, Sem.run_pure]
       · cases aP
     · cases aP
   · cases aP
 · cases aP
theorem tN {α β : Type} (f : α -> Option β) : ∀ {l : List α} {r : List β}, dH f l = some r -> r.length = l.length
 | [], _, h => by simp only [dH, aA] at h; subst h; rfl
 | a :: l, _, h => by
   simp only [dH] at h
   split at h
   · split at h
     · rename_i aL B5
       simp only [aA] at h; subst h
       simp [tN f B5]
     · cases h
   · cases h
theorem tO {α β : Type} (f : α -> Option β) : ∀ {l : List α} {r : List β}, dH f l = some r -> ∀ {j : Nat} {a : α} {b : β}, l[j]? = some a -> r[j]? = some b -> f a = some b
 | [], _, h, j, a, b, h1, _ => by simp at h1
 | a :: l, _, h, j, bf, eE, h1, h2 => by
   simp only [dH] at h
   split at h
   · rename_i b hb
     split at h
     · rename_i aL B5
       simp only [aA] at h; subst h
       cases j with
       | zero => simp at h1 h2; subst h1; subst h2; exact hb
       | succ j => exact tO f B5 (by simpa using h1) (by simpa using h2)
     · cases h
   · cases h
theorem aa0 (aa : bb C fid G H w) (aM : fh C fid vars G w ag ρ) {t : TypeId} {parts : Array (Nat × Operand)} (ho : o.op = .build t parts) (hc : C.cI vars pos o.op = some c7) (he : step ag H low c7 = some (v, H', low')) :
  dh C fid G H w low ((execOp ρ o).run C.P w) v H' low' := by
 rw [ho] at hc
 have cf : (execOp ρ o).run C.P w = ((Instr.build t (parts.map fun (i, x) => (i, ρ x))).run C.P w).andThen fun z w' => .ok (.value z) w' := by
  unfold execOp; rw [ho]; simp only [Sem.run_bind]; rfl
 have main : ∀ (z : List V) (ap : List (Nat × Nat × aj)) (place : Nat -> Option (Nat × Nat)), C.zeroCells t = some z -> ap.length = parts.toList.length ->
   (∀ (j : Nat) p a, parts.toList[j]? = some p -> ap[j]? = some a -> place p.1 = some (a.1, a.2.1) /\ C.bV vars p.2 = some a.2.2) ->
   (∀ (cF : Value) (w : World), (∀ w, (zeroValue t).run C.P w = .ok cF w) -> ∀ cells, Instr.fill place cF.cells (parts.toList.map fun (i, x) => (i, ρ x)) = some cells ->
     (Instr.build t (parts.map fun (i, x) => (i, ρ x))).run C.P w = .ok (.agg cells) w) ->
   step ag H low (.build z ap) = some (v, H', low') -> dh C fid G H w low ((execOp ρ o).run C.P w) v H' low' := by
  intro z ap place aP hlen jo hb he
  obtain ⟨cF, mN, nH, bd, -⟩ := B4 (fid := fid) aP
  simp only [step] at he
  obtain ⟨cs, fA, he⟩ := cD.1 he
  simp only [bw] at he
  obtain ⟨rfl, rfl, rfl⟩ := he
  obtain ⟨cells, ah, e2⟩ := Q1 (fid := fid) (G := G) (w := w) (place := place) (ps := parts.toList.map fun (i, x) => (i, ρ x)) (aY := ap.map fun p => (p.1, p.2.1, ag p.2.2))
   (by simp [hlen]) (fun j p a h1 h2 => by
     simp only [kh, cD] at h1 h2
     obtain ⟨B6, oo, rfl⟩ := h1
     obtain ⟨bf, gF, rfl⟩ := h2
     exact ⟨(jo j B6 bf oo gF).1, aM _ _ (jo j B6 bf oo gF).2⟩) (nH G w) fA
  refine dh.same aa (x := .agg cells) ?_ (.agg _ cells.toList e2)
  rw [cf, hb cF w mN cells ah]; rfl
 simp only [Ctx.cI] at hc
 split at hc
 · rename_i fs z hd aP
   split at hc
   · cases hc
   · rename_i eo
     obtain ⟨ap, ll, rfl⟩ := cD.1 hc
     have dP : ∀ f ∈ fs.toList, ∃ n, C.sizeOf f.type = some n := by
      intro f ae
      cases bD : C.sizeOf f.type with
      | some n => exact ⟨n, rfl⟩
      | none => exact absurd (tg.2 ⟨f, ae, by simp [bD]⟩) eo
     refine main z ap (fun i => (fs.map fun f => (f.offset, (C.sizeOf f.type).getD 0))[i]?) aP (tN _ ll) ?_ ?_ he
     · intro j p a h1 h2
       have := tO _ ll h1 h2
       split at this
       · rename_i f ae
         split at this
         · rename_i n x hn hx
           simp only [aA] at this; subst this
           refine ⟨?_, hx⟩
           simp only [Array.getElem?_map, ae, r5, hn, vg]
         · cases this
       · cases this
     · intro cF w mN cells KQ
       have hm := aaZ (C := C) (w := w) (fun (f : Field) => (do pure (f.offset, <- Go.sizeOf f.type) : Sem (Nat × Nat))) (fun f => (f.offset, (C.sizeOf f.type).getD 0)) fs (fun f ae w => by
        obtain ⟨n, hn⟩ := dP f ae
        simp only [Sem.run_bind, xk (C := C) hn, Result.andThen_ok, Sem.run_pure, hn, vg])
       have jo : (parts.map fun (i, x) => (i, ρ x)).toList = parts.toList.map fun (i, x) => (i, ρ x) := by simp
       unfold Instr.build
       simp only [Sem.run_bind, mN, run_underlying hd, Result.andThen_ok, hm, jo, KQ, Sem.run_pure]
 · rename_i n e z hd aP
   split at hc
   · rename_i ld hs
     obtain ⟨ap, ll, rfl⟩ := cD.1 hc
     refine main z ap (fun i => some (i * ld, ld)) aP (tN _ ll) ?_ ?_ he
     · intro j p a h1 h2
       have := tO _ ll h1 h2
       split at this
       · rename_i x hx
         simp only [aA] at this; subst this
         exact ⟨rfl, hx⟩
       · cases this
     · intro cF w mN cells KQ
       have jo : (parts.map fun (i, x) => (i, ρ x)).toList = parts.toList.map fun (i, x) => (i, ρ x) := by simp
       unfold Instr.build
       simp only [Sem.run_bind, mN, run_underlying hd, Result.andThen_ok, xk (C := C) hs, jo, KQ, Sem.run_pure]
   · cases hc
 · cases hc
end Go.Abs
namespace Go.Abs
open Go
variable {C : Ctx} {fid : Nat -> Nat} {w w' : World} {G G' : bT} {H : Heap}
variable {vars : List Nat} {ag : aj -> V} {ρ : Operand -> Value} {low low' : Nat} {v : V} {H' : Heap} {pos : String} {c7 : cH} {o : Oper}
theorem bb.sj (aa : bb C fid G H w) (aT : Obj) (p : Prop) : bb C fid ⟨G.β, fun b => G.I b \/ (b = w.heap.size /\ p)⟩ H (w.alloc aT) where
 obj l h hb := by
  obtain ⟨o, ho, hr⟩ := aa.obj l h hb
  exact ⟨o, ho, iT.mono (G := G) (G' := ⟨G.β, fun b => G.I b \/ (b = w.heap.size /\ p)⟩) (k9.refl _) (fun b (hi : G.I b) => ⟨.inl hi, alloc_old (aa.cX b hi).1⟩) (alloc_old (aa.blk l h hb)) hr⟩
 inj := aa.inj
 blk l h hb := by rw [World.size_alloc]; have := aa.blk l h hb; omega
 cX b hi := by
  rw [World.size_alloc]
  rcases hi with hi | ⟨rfl, -⟩
  · exact ⟨by have := (aa.cX b hi).1; omega, (aa.cX b hi).2⟩
  · exact ⟨by omega, fun l h hb q => by have := aa.blk l h hb; omega⟩
 jY l h hb ae := .inl (aa.jY l h hb ae)
 e6 b o bt := ⟨.inl (aa.e6 b o bt).1, by rw [alloc_old (aa.cX b (aa.e6 b o bt).1).1]; exact (aa.e6 b o bt).2⟩
theorem Ext.sj (aT : Obj) (p : Prop) (m n : Nat) : Ext G w ⟨G.β, fun b => G.I b \/ (b = w.heap.size /\ p)⟩ (w.alloc aT) m n where
 size := by simp
 os := rfl
 output := rfl
 ei b hb _ := alloc_old hb
 homes := .refl _
 mI l h hb := .inl ⟨h, hb, .inl rfl⟩
 cX _ h := .inl h
 ny b hi := by
  rcases hi with hi | ⟨rfl, -⟩
  · exact .inl hi
  · exact .inr (.inl (aK _))
theorem Q4 {z : List V} (h : b4 z = true) : aG (lO z) = z := by
 unfold lO
 split
 · rename_i x
   simp only [b4, vk] at h
   cases x <;> first | rfl | simp [eP] at h
 · rfl
theorem FM {z : List V} {cF : Array Value} (aP : a6 fid G w z cF.toList) (bd : b4 z = true) (jE : 0 < cF.size) : ∀ (n : Nat),
  a6 fid G w ((List.replicate n (lO z)).flatMap aG) ((List.range (n * cF.size)).map fun i => cF[i % cF.size]!)
 | 0 => by simpa using a6.nil
 | n + 1 => by
   have ih := FM aP bd jE n
   have ah : (n + 1) * cF.size = cF.size + n * cF.size := by rw [BD, Nat.add_comm]
   rw [Bw, kF, Q4 bd, ah, List.range_add, oY, qR]
   have e2 : (List.range cF.size).map (fun i => cF[i % cF.size]!) = cF.toList := by
    apply zn
    intro j
    simp only [kh]
    by_cases hj : j < cF.size
    · rw [List.getElem?_range hj]
      simp [Nat.mod_eq_of_lt hj, hj]
    · rw [mF (by simpa using hj), mF (by simpa using hj)]; rfl
   have b5 : ((fun i => cF[i % cF.size]!) ∘ (cF.size + ·)) = fun i => cF[i % cF.size]! := by
    funext i; simp
   rw [e2, b5]
   exact aP.append ih
theorem KR {z : List V} (bd : b4 z = true) {n k : Nat} (ai : z.length = k) : ∀ d ∈ List.replicate n (lO z), (aG d).length = k := by
 intro d hd
 rw [(List.mem_replicate.1 hd).2, Q4 bd, ai]
theorem KS (aa : bb C fid G H w) {es : Nat} {ds : List V} {c : Array Value} {vals rest : List Value} {e : TypeId} (fL : 0 < es) (hn : 0 < ds.length) (hu : ∀ d ∈ ds, (aG d).length = es) (hc : c.toList = vals ++ rest)
  (af : a6 fid G w (ds.flatMap aG) vals) :
  iT C fid ⟨cg G.β H.length ⟨w.heap.size, ds.length, c.size, false⟩, G.I⟩ (w.alloc (.cells c e)) ⟨w.heap.size, ds.length, c.size, false⟩ (.row es ds false) :=
 ⟨rfl, hn, rfl, fL, hu, c, e, vals, rest, oe _ _, rfl, hc, af.ext aa (Ext.push aa _ ds.length c.size 0)⟩
theorem aa1 (aa : bb C fid G H w) (aM : fh C fid vars G w ag ρ) {t : TypeId} {len : Nat} {parts : Array (Nat × Operand)} (ho : o.op = .buildSlice t len parts) (hc : C.cI vars pos o.op = some c7) (he : step ag H low c7 = some (v, H', low')) :
  dh C fid G H w low ((execOp ρ o).run C.P w) v H' low' := by
 rw [ho] at hc
 have cf : (execOp ρ o).run C.P w = ((Instr.buildSlice t len (parts.map fun (i, x) => (i, ρ x))).run C.P w).andThen fun z w' => .ok (.value z) w' := by
  unfold execOp; rw [ho]; simp only [Sem.run_bind]; rfl
 simp only [Ctx.cI] at hc
 split at hc
 · rename_i e hd
   split at hc
   · rename_i n z ap hn aP ll
     split at hc
     · cases hc
     · rename_i en
       simp only [not_or, Nat.not_lt, ne_eq, Classical.not_not] at en
       obtain ⟨mM, aqO, qW⟩ := en
       obtain ⟨mG, rfl⟩ : ∃ mG, c7 = .lit n z len ap mG := ⟨_, (Bz hc).symm⟩
       obtain ⟨cF, mN, nH, bd, -⟩ := B4 (fid := fid) aP
       have hlen := tN _ ll
       have xn : cF.cells.size = n := by rw [<- gW, (nH G w).length, qW]
       simp only [step] at he
       split at he
       · rename_i vs H1 b0 ae
         have aa2 : a6 fid G w (ap.map fun p => ag p.2) (parts.toList.map fun p => ρ p.2) := by
          refine a6.ZW (by simp [hlen]) (fun j a x h1 h2 => ?_)
          simp only [kh, cD] at h1 h2
          obtain ⟨bf, gF, rfl⟩ := h1
          obtain ⟨B6, oo, rfl⟩ := h2
          have := tO _ ll oo gF
          obtain ⟨cv, hx, rfl⟩ := cD.1 this
          exact aM _ _ hx
         obtain ⟨ax, f1, cn⟩ := Ks aa aa2 ae
         have aa3 : vs.length = ap.length := by have := cn.length; simp only [n4] at this; omega
         split at he
         · rename_i ds si
           have aa4 : ((parts.map fun (i, x) => (i, ρ x)).toList) = parts.toList.map fun (i, x) => (i, ρ x) := by simp
           have aa5 : a6 fid ax w ((List.replicate len (lO z)).flatMap aG) (((Array.range (len * n)).map fun i => (if len * n = 0 then #[] else cF.cells)[i % (if len * n = 0 then #[] else cF.cells : Array Value).size]!).toList) := by
            by_cases asQ : len = 0
            · subst asQ; simpa using a6.nil
            · have h0 : len * n ≠ 0 := Nat.mul_ne_zero asQ mM
              have := FM (nH ax w) bd (by omega) len
              rw [xn] at this
              simpa [h0, xn] using this
           obtain ⟨cells, ah, e2, b5, cU⟩ := Q2 (fid := fid) (G := ax) (w := w) (es := n) (ps := parts.toList.map fun (i, x) => (i, ρ x)) (aY := (ap.zip vs).map fun (p, v) => (p.1, v))
            (by simp [hlen, aa3]) (fun j p a h1 h2 => by
              simp only [kh, cD] at h1 h2
              obtain ⟨B6, oo, rfl⟩ := h1
              obtain ⟨⟨bf, v'⟩, gF, rfl⟩ := h2
              rw [zl] at gF
              have := tO _ ll oo gF.1
              obtain ⟨cv, hx, rfl⟩ := cD.1 this
              refine ⟨rfl, ?_⟩
              obtain ⟨y, hy, fg⟩ := cn.get gF.2
              simp only [kh, oo, r5, aA] at hy
              subst hy; exact fg) (KR bd qW) aa5 si
           rw [vf] at cU
           have hb : (Instr.buildSlice t len (parts.map fun (i, x) => (i, ρ x))).run C.P w = .ok (.slice (some ⟨w.heap.size, 0, none⟩) len len) (w.alloc (.cells cells e)) := by
            unfold Instr.buildSlice
            have hl : ¬ len * n > 2 ^ 24 := by omega
            simp only [Sem.run_bind, run_underlying hd, Result.andThen_ok, xk (C := C) hn, hl, if_false, aa4]
            by_cases h0 : len * n = 0
            · simp only [h0, if_true] at ah ⊢
              simp only [Sem.run_bind, Sem.run_pure, Result.andThen_ok, ah, newRow, run_newObj, World.alloc_eq]
            · simp only [h0, if_false] at ah ⊢
              simp only [Sem.run_bind, Sem.run_pure, Result.andThen_ok, mN, ah, newRow, run_newObj, World.alloc_eq]
           have hval : (execOp ρ o).run C.P w = .ok (.value (.slice (some ⟨w.heap.size, 0, none⟩) len len)) (w.alloc (.cells cells e)) := by rw [cf, hb]; rfl
           have fL : 0 < n := PI mM
           have emp : dh C fid G H w low ((execOp ρ o).run C.P w) .emp H1 b0 -> True := fun _ => trivial
           have Q5 : len = 0 -> dh C fid G H w low ((execOp ρ o).run C.P w) .emp H1 b0 := by
            intro h0
            refine dh.zH f1 ⟨_, _, _, .inl hval, f1.rel.sj _ False, fun m _ => Ext.sj _ _ _ _, ?_, aK _, aK _⟩
            subst h0; exact .p _ _ (.emp _)
           split at he
           · split at he
             · rename_i aqP hp
               by_cases h0 : len = 0
               · simp only [h0, if_true, aA, bw] at he
                 obtain ⟨rfl, rfl, rfl⟩ := he
                 exact Q5 h0
               · simp only [h0, if_false, aA, bw] at he
                 obtain ⟨rfl, rfl, rfl⟩ := he
                 refine dh.zH f1 ⟨_, _, ⟨ax.β, fun b => ax.I b \/ (b = w.heap.size /\ True)⟩, .inl hval, f1.rel.sj _ True, fun m _ => Ext.sj _ _ _ _, ?_, aK _, aK _⟩
                 have hx := Ext.sj (G := ax) (w := w) (.cells cells e) True 0 H1.length
                 have key := fE.list (w := w.alloc (.cells cells e)) (I := fun b => ax.I b \/ (b = w.heap.size /\ True)) n ds w.heap.size 0 len cells.toList (.inr ⟨rfl, trivial⟩)
                  (asJ.xc (rest := []) (oe _ _) (by simp)) b5 ((e2.ext f1.rel hx).o5 (Kk hp)) (by omega)
                 rw [cU] at key
                 exact .p _ _ key
             · cases he
           · split at he
             · rename_i h0
               simp only [aA, bw] at he
               obtain ⟨rfl, rfl, rfl⟩ := he
               exact Q5 h0
             · rename_i h0
               simp only [aA, bw] at he
               obtain ⟨rfl, rfl, rfl⟩ := he
               have qe : cells.size = len * n := by
                rw [<- gW, e2.length, mK b5, cU]
               refine dh.zH f1 (dh.alloc f1.rel ds.length cells.size hval (KS f1.rel fL (by omega) b5 (rest := []) (by simp) e2) ?_)
               refine .cQ _ n 0 len len ⟨w.heap.size, ds.length, cells.size, false⟩ _ _ _ (de _ _ _) (by simp only; omega) (fun _ => ⟨by simp, rfl, ?_, aK _⟩)
               rw [qe, eF]; exact aK _
         · cases he
       · cases he
   · cases hc
 · cases hc
end Go.Abs
namespace Go.Abs
open Go
variable {C : Ctx} {fid : Nat -> Nat} {w w' : World} {G G' : bT} {H : Heap}
variable {vars : List Nat} {ag : aj -> V} {ρ : Operand -> Value} {low low' : Nat} {v : V} {H' : Heap} {pos : String} {c7 : cH} {o : Oper}
theorem Q6 {n : Int} (h0 : 0 <= n) (h : n <= 1099511627776) : IntKind.i64.wrap n = n := by
 have e : n % (2 ^ IntKind.i64.bits : Int) = n := Int.emod_eq_of_lt h0 (by show n < (2 ^ 64 : Int); omega)
 unfold IntKind.wrap
 rw [e]
 have : ¬ (n >= (2 ^ (IntKind.i64.bits - 1) : Int)) := by show ¬ n >= (2 ^ 63 : Int); omega
 simp [this]
theorem aa6 (aa : bb C fid G H w) (aM : fh C fid vars G w ag ρ) {t : TypeId} {l c : Operand} (ho : o.op = .makeSlice t l c) (hc : C.cI vars pos o.op = some c7) (he : step ag H low c7 = some (v, H', low')) :
  dh C fid G H w low ((execOp ρ o).run C.P w) v H' low' := by
 rw [ho] at hc
 simp only [Ctx.cI] at hc
 split at hc
 · rename_i e hd
   split at hc
   · rename_i i z ln ac hi aP h1 h2
     split at hc
     · cases hc
     · rename_i en
       simp only [not_or, ne_eq, Classical.not_not] at en
       simp only [aA] at hc; subst hc
       obtain ⟨cF, mN, nH, bd, -⟩ := B4 (fid := fid) aP
       have xn : cF.cells.size = i.size := by rw [<- gW, (nH G w).length, en.2]
       have hl := aM l ln h1
       have tG := aM c ac h2
       simp only [step] at he
       split at he
       · rename_i k n bs m ah e2
         split at he
         · rename_i hb
           obtain ⟨rfl, mM, hbound⟩ := hb
           rw [ah] at hl; rw [e2] at tG
           obtain ⟨j, rfl⟩ := Pz mM
           have mO : j <= 1099511627776 := by
            have : (j : Int) * 1 <= (j : Int) * ((i.bytes : Int) + 1) := Int.mul_le_mul_of_nonneg_left (by omega) mM
            omega
           have pb : (i.bytes : Int) * (j : Int) <= 1099511627776 := by
            have : (j : Int) * ((i.bytes : Int) + 1) = (i.bytes : Int) * (j : Int) + j := by rw [Int.mul_add, Int.mul_comm]; omega
            omega
           have hw := Q6 mM (by omega : (j : Int) <= 1099511627776)
           have jE : 0 < i.size := PI en.1
           have cf : ∃ cells, (execOp ρ o).run C.P w = .ok (.value (.slice (some ⟨w.heap.size, 0, none⟩) j j)) (w.alloc (.cells cells e)) /\ cells.toList = (List.range (j * i.size)).map (fun q => cF.cells[q % cF.cells.size]!) := by
            refine ⟨(Array.range (j * i.size)).map (fun q => (if j * i.size = 0 then #[] else cF.cells : Array Value)[q % (if j * i.size = 0 then #[] else cF.cells : Array Value).size]!), ?_, ?_⟩
            · unfold execOp; rw [ho]
              have pd : ¬ ((decide ((j : Int) < 0) || decide ((i.bytes : Int) * (j : Int) > 2 ^ 48)) = true) := by simp; omega
              have nA : ¬ ((decide ((j : Int) < 0) || decide ((i.bytes : Int) * (j : Int) > 2 ^ 48) || decide ((j : Int) < 0) || decide ((j : Int) > (j : Int))) = true) := by simp; omega
              simp only [hl.jm, tG.jm, Instr.makeSlice, asInt, asIntOf, Sem.run_bind, Sem.run_pure, Result.andThen_ok, run_underlying hd, run_typeInfo (P := C.P) w hi, hw]
              rw [if_neg (by simpa using nA)]
              simp only [Sem.run_bind, run_askRoom, Result.andThen_ok, sizeOf, run_typeInfo (P := C.P) w hi, Sem.run_pure, JM]
              by_cases h0 : j * i.size = 0
              · simp only [h0, if_true, Sem.run_bind, Sem.run_pure, Result.andThen_ok, newRow, run_newObj, World.alloc_eq]
              · simp only [h0, if_false, Sem.run_bind, Sem.run_pure, Result.andThen_ok, mN, newRow, run_newObj, World.alloc_eq]
            · by_cases h0 : j * i.size = 0
              · simp [h0]
              · simp [h0]
           obtain ⟨cells, cf, j2⟩ := cf
           split at he
           · rename_i aa7
             simp only [aA, bw] at he
             obtain ⟨rfl, rfl, rfl⟩ := he
             obtain rfl : j = 0 := by omega
             exact ⟨_, _, _, .inl cf, aa.sj _ False, fun m _ => Ext.sj _ _ _ _, .p _ _ (.emp _), aK _, aK _⟩
           · rename_i aa7
             simp only [aA, bw, JM] at he
             obtain ⟨rfl, rfl, rfl⟩ := he
             have pe := FM (nH G w) bd (by omega) j
             rw [xn] at pe j2
             rw [<- j2] at pe
             have hu := KR bd (n := j) en.2
             have fA : cells.size = j * i.size := by rw [<- gW, pe.length, mK hu, vf]
             refine dh.alloc aa (List.replicate j (lO z)).length cells.size cf (KS aa jE (by simp; omega) hu (rest := []) (by simp) pe) ?_
             refine .cQ _ _ 0 j j ⟨w.heap.size, (List.replicate j (lO z)).length, cells.size, false⟩ _ _ _ (de _ _ _) (by simp) (fun _ => ⟨by simp, rfl, ?_, aK _⟩)
             rw [fA, eF]; exact aK _
         · cases he
       · cases he
   · cases hc
 · cases hc
theorem FN (aa : bb C fid G H w) {es : Nat} {a : V} {xs : List V} {x : Value} (ao : bg fid G w a x) (he : elems H es a = some xs) :
  ∃ df cap, x = .slice df xs.length cap /\ (xs ≠ [] -> ∃ b off vals, df = some ⟨b, off, none⟩ /\ asJ w b off vals /\ a6 fid G w (xs.flatMap aG) vals /\ ∀ d ∈ xs, (aG d).length = es) := by
 unfold elems at he
 split at he
 · simp only [aA] at he; subst he
   exact ⟨none, 0, ao.jF, fun h => absurd rfl h⟩
 · simp only [aA] at he; subst he
   obtain ⟨df, hx⟩ := ao.qY
   exact ⟨some df, 0, hx, fun h => absurd rfl h⟩
 · split at he
   · rename_i fL
     simp only [aA] at he; subst he; subst fL
     obtain ⟨df, cap, hx, -, bD⟩ := ao.vy
     refine ⟨some df, cap, hx, fun bA => ?_⟩
     rcases bD with rfl | ⟨b, off, vals, rfl, aZ, hc, hu, hr⟩
     · exact absurd rfl bA
     · exact ⟨b, off, vals, rfl, hc, hr.od, hu⟩
   · cases he
 · rename_i l bC off len tag
   split at he
   · rename_i eQ ds dW hl
     split at he
     · rename_i en
       obtain ⟨rfl, rfl, fK, om⟩ := en
       simp only [aA] at he; subst he
       obtain ⟨h0, df, cL, cap, du, qX, jn, ef⟩ := ao.o7
       obtain ⟨aT, eS, hr⟩ := aa.obj l h0 du
       rw [hl] at eS; cases eS
       obtain ⟨ht, jE, ae, fL, hu, c, e, vals, rest, hc, fA, af, fg⟩ := hr
       obtain ⟨rfl, rfl, -, -⟩ := jn (ht.trans fK)
       have hlen : ((ds.drop off).take cL).length = cL := by simp; omega
       rw [hlen]
       refine ⟨_, cap, ef, fun _ => ⟨h0.b, off * eQ, (vals.drop (off * eQ)).take (cL * eQ), rfl, ?_, ?_, fun d hd => hu d (E9 (Bv hd))⟩⟩
       · have := ((asJ.xc hc af).drop (off * eQ)).take (cL * eQ)
         rwa [eF] at this
       · have mL : ∀ d ∈ ds.drop off, (aG d).length = eQ := fun d hd => hu d (E9 hd)
         rw [zE mL, xb hu]
         exact (fg.drop _).take _
     · cases he
   · cases he
 · cases he
theorem KT {size n cap : Nat} {b off : Nat} {vals : List Value} (hc : asJ w b off vals) (hl : vals.length = n * size) :
  (Builtin.firstCells size n (.slice (some ⟨b, off, none⟩) n cap)).run C.P w = .ok vals.toArray w := by
 have := run_loadCells_list (P := C.P) w ⟨b, off, none⟩ vals (fun j v hj => by rw [Addr.add_lit]; exact hc j v hj)
 rw [hl] at this
 exact this
theorem Q7 : ∀ {vs vs' : List V} {xs : List Value} {G : bT} {H H' : Heap} {low low' : Nat}, bb C fid G H w -> a6 fid G w (vs.flatMap aG) xs -> fe H low vs = some (vs', H', low') ->
  ∃ G', kI C fid G H w low G' H' low' /\ a6 fid G' w (vs'.flatMap aG) xs /\ vs'.length = vs.length /\ ∀ es, (∀ d ∈ vs, (aG d).length = es) -> ∀ d ∈ vs', (aG d).length = es
 | [], _, _, G, H, H', low, low', aa, h, he => by
   simp only [fe, aA, bw] at he
   obtain ⟨rfl, rfl, rfl⟩ := he
   exact ⟨G, .refl aa _, h, rfl, fun _ h => h⟩
 | v :: r, _, xs, G, H, H', low, low', aa, h, he => by
   simp only [fe] at he
   split at he
   · rename_i v1 H1 b0 h1
     split at he
     · rename_i ch H2 dv h2
       simp only [aA, bw] at he
       obtain ⟨rfl, rfl, rfl⟩ := he
       rw [kF] at h
       obtain ⟨cN, dc, rfl, hy, aP⟩ := h.split
       obtain ⟨ax, f1, cn, b2⟩ := Z5 aa hy h1
       obtain ⟨bq, f2, dZ, jZ, o6⟩ := Q7 f1.rel (aP.ext aa (f1.ext 0 (cx _))) h2
       refine ⟨bq, f1.trans f2, ?_, by simp [jZ], fun es hu d hd => ?_⟩
       · rw [kF]; exact (cn.ext f1.rel (f2.ext 0 (cx _))).append dZ
       · rcases dS.1 hd with rfl | hd
         · rw [b2]; exact hu v (by simp)
         · exact o6 es (fun d hd => hu d (by simp [hd])) d hd
     · cases he
   · cases he
end Go.Abs
