/- Texts of this claim, joined and written short by a program. -/
import Derived.Test.YtjgngmpmjbkbpaaGreatDoorP42
import Derived.Deep.DeepWitnessRowRef
import Derived.Test.YtjgngmpmjbkbpaaGreatDoorP40
import Derived.Test.YtjgngmpmjbkbpaaGreatDoorP00
set_option linter.unusedVariables false
set_option linter.unusedSimpArgs false
set_option linter.unusedSectionVars false
namespace Go.Proofs.YtjgngmpmjbkbpaaGreatDoor.commutes
open Go Go.Abs Go.Abs.U Go.Proofs Go.ChangeShapes Go.WideShapes Go.ChangeAt Go.RowKit
set_option maxRecDepth 100000
theorem apb {H : Type} {enc : TypeId × Value -> H} {f : Func} {s : ChangeSpec} {apart fresh handsOn again : Bool} {W W' : World} {args : Array Value} {ds gs : List (DataW H)} {before : List MemPlace} {G' : bT} {H' : Heap}
  (hW : DataW.Whole enc Tryz.prog f.params.toList s.vars apart W args.toList ds gs before) (af : s.vars = []) (hT : ∀ t ∈ f.params.toList, t < Tryz.prog.types.size) (hr : f.resultTypes = #[4])
  (j4 : (s.fn H (ds ++ gs)).results = [.lit (.bool true)]) (apc : gs = [] -> (s.fn H (ds ++ gs)).args = ds) (A5 : (s.fn H (ds ++ gs)).vars = [])
  (aa : bb (C fun b => W.heap[b]?) id G' H' W') (ho : W'.os = W.os) (hp : W'.output = W.output) : s.post enc Tryz.prog f apart fresh handsOn again W args (.bool true) W' := by
 have aH := hW.lt
 have hold : ∀ p ∈ before, (fun b => decide (b < W.heap.size)) p.block = true := fun p hp => by simpa using aH p hp
 have apd := hW
 obtain ⟨pa, q, hA, hV, tC, aP, hn⟩ := hW
 rw [af] at hV
 obtain ⟨xh, rfl⟩ := trodVars_none hV
 rw [vh] at tC
 subst tC
 have vG : ∀ sp : Nat -> Bool, (∀ p ∈ before, sp p.block = true) -> DataW.TrodAll enc Tryz.prog W' 0 sp true f.params.toList args.toList (s.fn H (ds ++ gs)).args before := fun sp lX => by
  rw [apc xh]
  exact YM kids (fun h hu => aoJ h hu) hT hA (fun q bD => aoK aa (aH q bD)) lX
 have YQ : ∀ sp : Nat -> Bool, DataW.TrodVars enc Tryz.prog W' sp s.vars (s.fn H (ds ++ gs)).vars [] := fun sp => by rw [af, A5]; rfl
 have sy : ∀ (b : Nat) (sp : Nat -> Bool) (hd : Bool), DataW.TrodAll enc Tryz.prog W' b sp hd f.resultTypes.toList ((Value.bool true).resultList f.resultTypes.size) (s.fn H (ds ++ gs)).results [] := fun b sp hd => by
  rw [hr, j4]
  exact trodAll_cons_mk (shut_bool Tryz.underlying4 _) trodAll_mk0
 refine ⟨ds, gs, before, [], before, [], apd, sy _ _ _, vG _ hold, YQ _, aoB aa ho hp _, fun _ => ?_⟩
 refine ⟨ok_one hr rfl (okWide_bool_mk Tryz.underlying4 _), _, _, ([] ++ before) ++ [], ⟨[] ++ before, [], trodAll_append (vG _ (fun _ _ => rfl)) (sy _ _ _), YQ _, rfl, ?_, ?_⟩, ?_⟩
 · intro b off oo
   have hm : MemPlace.cell b off ∈ before := by simpa using oo
   rw [aoL aa (aH _ hm)]
   exact aP b off hm
 · intro ao
   simpa using hn ao
 · intro p oo _
   simpa using oo
theorem ape {W : World} (h : laidMetH Tryz.prog Rows.executionCommutesRow.laid W) : Lib.TabIs Tryz.prog W "strings.asciiSpace" .u8 Lib.asciiSpaceTab := by
 have ae : (Rows.executionCommutesRow.laid.filter fun x => x.2.handleName?.isSome) = [] := by kernel_rfl
 unfold laidMetH at h
 rw [ae] at h
 have hm : ("strings.asciiSpace", Lib.tabData .u8 Lib.asciiSpaceTab) ∈ Rows.executionCommutesRow.laid := by
  have e : Rows.executionCommutesRow.laid[7]? = some ("strings.asciiSpace", Lib.tabData .u8 Lib.asciiSpaceTab) := by kernel_rfl
  exact fm e
 exact aoC (g := 1) (t := 476) (e := 5) (n := 256) (by kernel_rfl) (by kernel_rfl) (by kernel_rfl) (by kernel_rfl) (by kernel_rfl) (by kernel_rfl) h hm
theorem aD4 {W : World} (h : laidMetH Tryz.prog Rows.executionCommutesRow.laid W) : Lib.TabIs Tryz.prog W "internal/strconv.uint64pow10" .u64 Lib.pow10Tab := by
 have ae : (Rows.executionCommutesRow.laid.filter fun x => x.2.handleName?.isSome) = [] := by kernel_rfl
 unfold laidMetH at h
 rw [ae] at h
 have hm : ("internal/strconv.uint64pow10", Lib.tabData .u64 Lib.pow10Tab) ∈ Rows.executionCommutesRow.laid := by
  have e : Rows.executionCommutesRow.laid[2]? = some ("internal/strconv.uint64pow10", Lib.tabData .u64 Lib.pow10Tab) := by kernel_rfl
  exact fm e
 exact aoC (g := 0) (t := 473) (e := 357) (n := 20) (by kernel_rfl) (by kernel_rfl) (by kernel_rfl) (by kernel_rfl) (by kernel_rfl) (by kernel_rfl) h hm
theorem walk {W : World} {ad : Nat -> Option ca} (bd : dU (C fun b => W.heap[b]?) id (fW fun b => W.heap[b]?) -> dU (C fun b => W.heap[b]?) id ad) (dT : laidMetH Tryz.prog Rows.executionCommutesRow.laid W) {i : Nat} {f : iw} (hi : ad i = some (.code f)) {vs : List V} {xs : List Value} (cO : c6 W (ue W).I vs xs)
  (he : cK ad (.fn i [] []) vs [] = some (.bool true, [], 0)) :
  Calls Tryz.prog i ⟨xs⟩ W fun e W' => e = .returned (.bool true) /\ ∃ G' H', bb (C fun b => W.heap[b]?) id G' H' W' /\ W'.os = W.os /\ W'.output = W.output := by
 obtain ⟨n, hn⟩ := tx.1 he
 have hT : dU (C fun b => W.heap[b]?) id ad := bd <| anY (fun G H w aa => aoG aa (aD4 dT)) fun G H w aa => aoG aa (ape dT)
 have h := St (C := C fun b => W.heap[b]?) (fid := id) (Checked.mixed Tryz.checked) sD hT hi hn (aoz W) (c6.od cO)
 refine BF h fun e W' hp => ?_
 obtain ⟨x, rfl, G', h1, h2, av⟩ := hp
 rw [av.j1]
 have dw := h2 0 (aK _)
 exact ⟨rfl, G', _, h1, dw.os, dw.output⟩
end Go.Proofs.YtjgngmpmjbkbpaaGreatDoor.commutes
namespace Go.Proofs.YtjgngmpmjbkbpaaGreatDoor
open Go Go.Abs Go.Abs.U Go.Proofs
set_option maxRecDepth 100000
def zk : DataW Unit -> List Value
 | .agg xs => xs.map fun x => match x with
   | .lit (.int k n) => .int k n
   | _ => .tuple #[]
 | _ => []
def apf : DataW Unit -> List Value
 | .agg xs => xs.flatMap zk
 | _ => []
def YR : DataW Unit -> Value
 | .iface _ (.ptr (.agg [.lit (.string s)])) => .string ⟨⟨s⟩⟩
 | _ => .tuple #[]
def rowsOf : DataW Unit -> List Value
 | .ptr (.agg (.slice xs _ :: _)) => xs.flatMap zk
 | _ => []
def more : Array Obj := #[.cells #[YR Rows.laid_strconv_ErrRange] 513 (0, 0), .cells #[YR Rows.laid_strconv_ErrSyntax] 513 (0, 0),
 .cells #[.slice (some ⟨19, 0, none⟩) 7 7, .slice none 0 0, .int .i64 2] 529 (0, 0), .cells (rowsOf Rows.laid_unicode_White_Space).toArray 532 (0, 0)]
def vd (cs : Array Value) : Obj -> Obj
 | .cells _ t f => .cells cs t f
 | o => o
noncomputable def JC (os : Os) : World :=
 { World.holding Tryz.prog os ⟨more, #[], []⟩ with heap := (((((((((World.holding Tryz.prog os ⟨more, #[], []⟩).heap.modify 1 (vd (zk Rows.laid_strings_asciiSpace).toArray)).modify 0 (vd (zk Rows.laid_internal_strconv_uint64pow10).toArray)).modify 4 (vd #[.pointer (some ⟨18, 0, none⟩)])).modify 3
  (vd #[.iface 511 (.pointer (some ⟨16, 0, none⟩))])).modify 2 (vd #[.iface 511 (.pointer (some ⟨17, 0, none⟩))])).modify 5 (vd (zk Rows.laid_math_bits_deBruijn32tab).toArray)).modify 6 (vd (zk Rows.laid_math_bits_deBruijn64tab).toArray)).modify 8
  (vd (zk Rows.laid_unicode_utf8_first).toArray)).modify 9 (vd (apf Rows.laid_unicode_utf8_acceptRanges).toArray) }
theorem own : ownKnob Tryz.prog.godebug = none := by kernel_rfl
end Go.Proofs.YtjgngmpmjbkbpaaGreatDoor
namespace Go.Abs.AH
theorem G7 : ∀ (n : Nat) (l : List Nat), l.Nodup -> (∀ x ∈ l, x < n) -> l.length <= n
 | 0, l, _, h => by
   cases l with
   | nil => simp
   | cons x r => exact absurd (h x (by simp)) (by omega)
 | n + 1, l, hn, h => by
   by_cases hm : n ∈ l
   · have h1 := G7 n (l.erase n) (hn.erase n) fun x hx => by
      have ed := hn.mem_erase_iff.1 hx
      have := h x ed.2
      have := ed.1
      omega
     rw [List.length_erase_of_mem hm] at h1
     omega
   · have := G7 n l hn fun x hx => by
      have := h x hx
      have : x ≠ n := fun e => hm (e ▸ hx)
      omega
     omega
section
variable (lH : Nat -> Nat -> Bool) (size : Nat)
def DE (l : List Nat) : Bool := lH (l.getLastD 0) (l.headD 0)
def yl (l : List Nat) : List (List Nat) :=
 ((List.range' (l.headD 0 + 1) (size - (l.headD 0 + 1))).filter fun v => lH (l.getLastD 0) v && !l.contains v).map fun v => l ++ [v]
def HJ : Nat -> List (List Nat) -> Option (List Nat)
 | 0, _ => none
 | k + 1, ps => match ps.find? (DE lH) with
   | some l => some l
   | none => if ps = [] then none else HJ k (ps.flatMap (yl lH size))
def start : List (List Nat) := (List.range size).map fun a => [a]
def ay5 : Option (List Nat) := HJ lH size (size + 1) (start size)
structure Path (l : List Nat) : Prop where
 ne : l ≠ []
 nodup : l.Nodup
 lt : ∀ x ∈ l, x < size
 least : ∀ x ∈ l, l.headD 0 <= x
 along : ∀ i, i + 1 < l.length -> lH (l.getD i 0) (l.getD (i + 1) 0) = true
variable {lH size}
theorem Path.len {l : List Nat} (h : Path lH size l) : l.length <= size := G7 size l h.nodup h.lt
theorem aD5 {l : List Nat} (h : l ≠ []) (v : Nat) : (l ++ [v]).headD 0 = l.headD 0 := by
 cases l with
 | nil => exact absurd rfl h
 | cons x r => rfl
theorem ay6 {l : List Nat} (h : l ≠ []) : l.getLastD 0 = l.getD (l.length - 1) 0 := by
 cases l with
 | nil => exact absurd rfl h
 | cons x r =>
   rw [List.getLastD_eq_getLast?, List.getLast?_eq_getElem?, Bu]
theorem Path.next {l fp : List Nat} (h : Path lH size l) (hl : fp ∈ yl lH size l) : Path lH size fp /\ fp.length = l.length + 1 := by
 unfold yl at hl
 obtain ⟨v, af, rfl⟩ := ey.1 hl
 rw [List.mem_filter, List.mem_range'_1, cd, pZ] at af
 obtain ⟨⟨h1, h2⟩, av, bc⟩ := af
 have aD6 : v ∉ l := fun q => by
  rw [tf.2 q] at bc; cases bc
 refine ⟨⟨by simp, ?_, fun x hx => ?_, fun x hx => ?_, fun i hi => ?_⟩, by simp⟩
 · refine Fe.2 ⟨h.nodup, by simp, fun x hx y hy => ?_⟩
   simp only [dS, w0, or_false] at hy
   subst hy
   exact fun q => aD6 (q ▸ hx)
 · rcases jV.1 hx with q | q
   · exact h.lt x q
   · simp only [dS, w0, or_false] at q
     subst q; omega
 · rw [aD5 h.ne]
   rcases jV.1 hx with q | q
   · exact h.least x q
   · simp only [dS, w0, or_false] at q
     subst q; omega
 · simp only [kg, iv, qQ] at hi
   have jE : 0 < l.length := by
    cases l with
    | nil => exact absurd rfl h.ne
    | cons => simp
   rw [Bu, Bu, hq (by omega)]
   by_cases hc : i + 1 < l.length
   · rw [hq hc]
     have := h.along i hc
     rw [Bu, Bu] at this
     exact this
   · have e : i + 1 = l.length := by omega
     rw [e, wW (aK _), Nat.sub_self]
     rw [ay6 h.ne, Bu] at av
     have e2 : i = l.length - 1 := by omega
     rw [e2]
     exact av
def HK (lH : Nat -> Nat -> Bool) (size k : Nat) (ps : List (List Nat)) : Prop := ∀ l ∈ ps, Path lH size l /\ l.length = k
theorem aD7 : HK lH size 1 (start size) := fun l hl => by
 obtain ⟨a, ao, rfl⟩ := ey.1 hl
 have gF := JS.1 ao
 refine ⟨⟨by simp, by simp, fun x hx => ?_, fun x hx => ?_, fun i hi => ?_⟩, rfl⟩
 · have : x = a := by simpa using hx
   omega
 · have : x = a := by simpa using hx
   subst this; exact aK _
 · simp at hi
theorem aD8 {k : Nat} {ps : List (List Nat)} (h : HK lH size k ps) : HK lH size (k + 1) (ps.flatMap (yl lH size)) := fun fp hl => by
 obtain ⟨l, h1, h2⟩ := PO.1 hl
 obtain ⟨p, e⟩ := h l h1
 obtain ⟨B6, e'⟩ := p.next h2
 exact ⟨B6, by omega⟩
theorem ay7 {k : Nat} {ps : List (List Nat)} (h : HK lH size k ps) (ai : size < k) : ps = [] := by
 cases ps with
 | nil => rfl
 | cons l r =>
   obtain ⟨p, e⟩ := h l (by simp)
   have := p.len
   omega
end
end Go.Abs.AH
namespace Go.Abs.U
open Go Go.Abs Go.Abs.AH
noncomputable section
def enc (p : List Nat) : ak Int := .mk (p.map fun (a : Nat) => (a : Int))
theorem y4 (p : List Nat) : (enc p).l = p.map fun (a : Nat) => (a : Int) := rfl
def AJ (c : Constraint) (N : Nat) : Bool := (c.Kind == 1) && (decide (c.qz >= 1) && (decide (c.qz <= 6) && (decide (c.c2 >= 0) && decide (c.c2 <= (N : Int) - c.qz * c.qz))))
def mu (v : List Int) (f n : Nat) (a b : Nat) : Bool := decide (v.getD (f + a * n + b) 0 >= 1)
theorem ay8 (c : Constraint) {N : Nat} (gT : N <= 100000) : DS c (N : Int) = some (AJ c N) := by
 unfold DS AJ
 by_cases h : c.qz >= 1 /\ c.qz <= 6
 · have h1 : c.qz * c.qz <= 36 := by
    have := M9 h.2 h.2 (by omega) (by omega); omega
   have h2 : 0 <= c.qz * c.qz := Int.mul_nonneg (by omega) (by omega)
   rw [gf (n := c.qz * c.qz) (by omega) (by omega), gf (by omega) (by omega)]
 · have : (decide (c.qz >= 1) && decide (c.qz <= 6)) = false := by
    rw [XC]; intro e; simp only [cd, decide_eq_true_eq] at e; exact h e
   congr 2
   rw [<- BB, <- BB (decide (c.qz >= 1)), this]; rfl
structure DF (c : Constraint) (st : ak Int) (f n : Nat) : Prop where
 ae : c.c2 = f
 hn : c.qz = n
 mR : 1 <= n
 DG : n <= 6
 le : f + n * n <= st.l.length
 N : st.l.length <= 100000
theorem aD9 {c : Constraint} {st : ak Int} (gT : st.l.length <= 100000) (h : AJ c st.l.length = true) : DF c st c.c2.toNat c.qz.toNat := by
 unfold AJ at h
 simp only [cd, decide_eq_true_eq] at h
 obtain ⟨-, h1, h2, av, bc⟩ := h
 have e : ((c.qz.toNat * c.qz.toNat : Nat) : Int) = c.qz * c.qz := by
  have : (c.qz.toNat : Int) = c.qz := Int.toNat_of_nonneg (by omega)
  rw [Int.natCast_mul, this]
 exact ⟨by omega, by omega, by omega, by omega, by omega, gT⟩
section
variable {c : Constraint} {st : ak Int} {f n : Nat}
theorem mul_lt {a n : Nat} (ao : a < n) (b : Nat) (hb : b < n) : a * n + b < n * n := by
 have : (a + 1) * n <= n * n := JG n ao
 rw [BD] at this; omega
theorem ay9 (g : DF c st f n) {a b : Nat} (ao : a < n) (hb : b < n) : DT st c (a : Int) (b : Int) = some (mu st.l f n a b) := by
 have h := mul_lt ao b hb
 have hn := g.N
 have hl := g.le
 unfold DT mu
 rw [g.ae, g.hn, show ((a : Int) * (n : Int)) = ((a * n : Nat) : Int) from (Int.natCast_mul a n).symm, gf (n := ((a * n : Nat) : Int)) (by omega) (by omega), gf (n := (f : Int) + _) (by omega) (by omega), gf (by omega) (by omega),
  show ((f : Int) + ((a * n : Nat) : Int) + (b : Int)) = ((f + a * n + b : Nat) : Int) by omega, c5, oV (by omega)]
 simp [Bu, oV (show f + a * n + b < st.l.length by omega)]
theorem aEa (p : List Nat) (v : Nat) (hp : p.length <= 100000) : HX (enc p) (v : Int) = some (p.contains v) := by
 have : HX (enc p) (v : Int) = some ((enc p).l.any fun x => (v : Int) == x) := EJ (enc p) (by rw [y4, n4]; omega) (f := fun x => some ((v : Int) == x)) (fun x _ => rfl)
 rw [this, y4, List.any_map]
 congr 1
 rw [BA, tg, tf]
 constructor
 · rintro ⟨x, hx, e⟩
   have e : (v : Int) = (x : Int) := by simpa using e
   rw [Int.ofNat_inj.1 e]; exact hx
 · intro h; exact ⟨v, h, by simp⟩
theorem Vo {s0 : Nat} {A : Type} {x : ak A} (a : A) (hb : s0 + 1 <= 1000) (h : x.l.length <= 1000000) : rv s0 x (ak.mk [a]) = some (.mk (x.l ++ [a])) := by
 unfold rv
 rw [if_neg (by intro e; cases e), if_pos]
 · rfl
 · show (x.l.length + 1) * (s0 + 1) <= 2 ^ 40
   have : (x.l.length + 1) * (s0 + 1) <= 1000001 * 1000 := Nat.mul_le_mul (by omega) hb
   omega
theorem aEb {p : List Nat} (hp : p ≠ []) (hl : p.length <= 1000) : asR 8 (enc p) = some (enc p) := by
 show rv 8 .emp (enc p) = _
 unfold rv
 rw [if_neg (by rw [y4]; simpa using hp), if_pos]
 · rfl
 · show (0 + (enc p).l.length) * 9 <= 2 ^ 40
   rw [y4, n4]; omega
theorem aza (g : DF c st f n) {p : List Nat} {last : Nat} (hp : p ≠ []) (jo : p.length <= 6) (azb : last < n) : ∀ (d v : Nat) (acc : ak (ak Int)), v + d = n -> acc.l.length + d <= 1000000 ->
  ∃ z, bU (DU c st (enc p) (last : Int)) ((v : Int), acc) = some z /\ z.l = acc.l ++ ((List.range' v d).filter fun v => mu st.l f n last v && !p.contains v).map fun v => enc (p ++ [v])
 | 0, v, acc, af, _ => ⟨acc, by
   rw [kt]
   simp only [DU, g.hn, show decide ((v : Int) < (n : Int)) = false by simp; omega, cond_false], by simp⟩
 | d + 1, v, acc, af, hl => by
   have M4 := g.DG
   have Wk : v < n := by omega
   have ER : DU c st (enc p) (last : Int) ((v : Int), acc) = some (.next (((v + 1 : Nat) : Int), bif mu st.l f n last v && !p.contains v then .mk (acc.l ++ [enc (p ++ [v])]) else acc)) := by
    simp only [DU, g.hn, show decide ((v : Int) < (n : Int)) = true by simp; omega, cond_true, ay9 g azb Wk, aW, aEa p v (by omega)]
    cases mu st.l f n last v with
    | false =>
      simp only [cond_false, aW, BC]
      rw [gf (by omega) (by omega)]; rfl
    | true =>
      simp only [cond_true, aW, dt]
      cases p.contains v with
      | true =>
        simp only [fQ, cond_false]
        rw [gf (by omega) (by omega)]; rfl
      | false =>
        simp only [o0, cond_true, aEb hp (by omega), aW]
        rw [Vo (v : Int) (by omega) (by rw [y4, n4]; omega)]
        simp only [aW]
        rw [Vo _ (by omega) (by omega)]
        simp only [aW]
        rw [gf (by omega) (by omega), y4]
        simp [enc]
   obtain ⟨z, e, el⟩ := aza g hp jo azb d (v + 1) (bif mu st.l f n last v && !p.contains v then .mk (acc.l ++ [enc (p ++ [v])]) else acc) (by omega) (by
    cases mu st.l f n last v && !p.contains v with
    | false => show acc.l.length + d <= _; omega
    | true => show (acc.l ++ [_]).length + d <= _; simp; omega)
   refine ⟨z, by rw [kt, ER]; exact e, ?_⟩
   rw [el, th, List.filter_cons]
   cases mu st.l f n last v && !p.contains v with
   | false => simp
   | true => simp [show (ak.mk (acc.l ++ [enc (p ++ [v])])).l = acc.l ++ [enc (p ++ [v])] from rfl]
theorem azc (g : DF c st f n) {ps : List (List Nat)} (oG : ∀ p ∈ ps, Path (mu st.l f n) n p) {w : ak (ak Int)} (hw : w.l = ps.map enc) (ai : ps.length <= 1000000) : ∀ (r : List (List Nat)) (k : Nat) (acc : ak (ak Int)), ps.drop k = r -> acc.l.length + 6 * r.length <= 1000000 ->
  ∃ z, bU (DV c st w) ((k : Int), acc) = some z /\ (match r.find? (DE (mu st.l f n)) with | some l => z = .ret (enc l) | none => ∃ a, z = .go a /\ a.l = acc.l ++ (r.flatMap (yl (mu st.l f n) n)).map enc)
 | [], k, acc, hr, _ => ⟨.go acc, by
     have : ps.length <= k := List.drop_eq_nil_iff.1 hr
     rw [kt]
     simp only [DV, dF, hw, n4, show decide ((k : Int) < (ps.length : Int)) = false by simp; omega, cond_false], ⟨acc, rfl, by simp⟩⟩
 | p :: r, k, acc, hr, hl => by
   have M4 := g.DG
   have aH : k < ps.length := by
    rcases gg k ps.length with q | q
    · exact q
    · rw [td q] at hr; cases hr
   have azd : ps[k]? = some p := by
    have := congrArg (·[0]?) hr
    simpa using this
   have fT : ps.drop (k + 1) = r := by
    have := congrArg List.tail hr
    simpa using this
   have hp := oG p (fm azd)
   have hlen := hp.len
   have bA := hp.ne
   obtain ⟨a, b, ah, e2, b5, cU, h1, h2⟩ : ∃ a b, p[0]? = some a /\ p.headD 0 = a /\ p[p.length - 1]? = some b /\ p.getLastD 0 = b /\ a < n /\ b < n := by
    have jE : 0 < p.length := XA.2 bA
    refine ⟨p[0], p[p.length - 1], by simp [jE], ?_, by simp [jE], ?_, hp.lt _ (by simp), hp.lt _ (by simp)⟩
    · cases p with
      | nil => exact absurd rfl bA
      | cons x q => rfl
    · rw [ay6 bA, Bu, oV (by omega)]; rfl
   have aEc : w.l[k]? = some (enc p) := by rw [hw, kh, azd]; rfl
   have jo : (0 : Nat) < p.length := XA.2 bA
   have i0 : aR (enc p).l 0 = some (a : Int) := by rw [Ox, y4, kh, ah]; rfl
   have i1 : aR (enc p).l (aQ ((enc p).len - 1)) = some (b : Int) := by
    rw [dF, y4, n4, gf (by omega) (by omega), show ((p.length : Nat) : Int) - 1 = ((p.length - 1 : Nat) : Int) by omega, c5, kh, b5]; rfl
   have j2 : DE (mu st.l f n) p = mu st.l f n b a := by unfold DE; rw [e2, cU]
   rw [kt]
   simp only [DV, dF w, hw, n4, show decide ((k : Int) < (ps.length : Int)) = true by simp; omega, cond_true, c5]
   rw [<- hw, aEc]
   simp only [aW, i0, i1, ay9 g h2 h1]
   rw [JR, j2]
   cases hb : mu st.l f n b a with
   | true => exact ⟨_, rfl, rfl⟩
   | false =>
     simp only [cond_false]
     obtain ⟨z, oi, aEd⟩ := aza g bA (by omega) h2 (n - (a + 1)) (a + 1) acc (by omega) (by simp only [iv] at hl; omega)
     have qW : z.l = acc.l ++ (yl (mu st.l f n) n p).map enc := by
      rw [aEd]; unfold yl; rw [e2, cU, qR]; rfl
     rw [gf (by omega) (by omega), show ((a : Int) + 1) = ((a + 1 : Nat) : Int) from rfl, oi]
     simp only [aW]
     rw [gf (by omega) (by omega), show ((k : Int) + 1) = ((k + 1 : Nat) : Int) from rfl]
     have arK : (yl (mu st.l f n) n p).length <= 6 := by
      unfold yl
      rw [n4]
      refine c4 (List.length_filter_le _ _) ?_
      rw [List.length_range']; omega
     obtain ⟨y, lk, hy⟩ := azc g oG hw ai r (k + 1) z fT (by rw [qW]; simp only [kg, n4, iv] at hl ⊢; omega)
     refine ⟨y, lk, ?_⟩
     cases ae : r.find? (DE (mu st.l f n)) with
     | some l => rw [ae] at hy; exact hy
     | none =>
       rw [ae] at hy
       obtain ⟨bf, e', aEe⟩ := hy
       exact ⟨bf, e', by rw [aEe, qW, kF, oY, mb]⟩
theorem aEf {lH : Nat -> Nat -> Bool} {p : List Nat} : (yl lH n p).length <= n := by
 unfold yl
 rw [n4]
 refine c4 (List.length_filter_le _ _) ?_
 rw [List.length_range']; omega
theorem aze {lH : Nat -> Nat -> Bool} : ∀ (ps : List (List Nat)), (ps.flatMap (yl lH n)).length <= ps.length * n
 | [] => by simp
 | p :: r => by
   have h1 := aEf (n := n) (lH := lH) (p := p)
   have h2 := aze (lH := lH) r
   rw [kF, kg, iv, BD]
   omega
theorem azf : ∀ (m : Nat), m <= 7 -> 6 ^ m <= 300000 := by decide
theorem azg (g : DF c st f n) : ∀ (j k : Nat) (ps : List (List Nat)) (w : ak (ak Int)), k + j = n + 2 -> 1 <= k -> HK (mu st.l f n) n k ps -> w.l = ps.map enc -> ps.length <= 6 ^ k ->
  ∃ z, bU (Dy c st) w = some z /\ (match HJ (mu st.l f n) n j ps with | some l => z = .ret (enc l) | none => z = .go ())
 | 0, k, ps, w, hj, h1, aJ, hw, hl => ⟨.go (), by
   have := ay7 aJ (by omega)
   subst this
   rw [kt]
   simp only [Dy, dF, hw, n5, qQ]
   rfl, rfl⟩
 | j + 1, k, ps, w, hj, h1, aJ, hw, hl => by
   have M4 := g.DG
   unfold HJ
   cases tC : ps with
   | nil =>
     subst tC
     refine ⟨.go (), ?_, by simp⟩
     rw [kt]
     simp only [Dy, dF, hw, n5, qQ]
     rfl
   | cons p r =>
     rw [<- tC]
     have ai : k <= n := by
      rcases gg n k with q | q
      · have := ay7 aJ q; rw [this] at tC; cases tC
      · exact q
     have gu := azf k (by omega)
     have lv := azf (k + 1) (by omega)
     have bA : ps ≠ [] := by rw [tC]; simp
     have jE : 0 < ps.length := XA.2 bA
     obtain ⟨z, oi, aP⟩ := azc g (fun p hp => (aJ p hp).1) hw (by omega) ps 0 .nil (by simp) (by show 0 + 6 * ps.length <= _; omega)
     have ER : ∀ x, bU (DV c st w) (0, .nil) = some x -> Dy c st w = match x with | .go p => some (.next p) | .ret p => some (.out (.ret p)) := fun x hx => by
      unfold Dy
      simp only [dF, hw, n4, show decide (((ps.length : Nat) : Int) > 0) = true by simp; omega, cond_true, hx, aW]
      cases x <;> rfl
     rw [kt, ER z oi]
     cases ae : ps.find? (DE (mu st.l f n)) with
     | some l =>
       rw [ae] at aP
       simp only at aP
       subst aP
       exact ⟨_, rfl, rfl⟩
     | none =>
       rw [ae] at aP
       obtain ⟨a, rfl, ao⟩ := aP
       rw [if_neg bA]
       refine azg g j (k + 1) _ a (by omega) (by omega) (aD8 aJ) (by rw [ao]; simp [ak.l]) ?_
       have := aze (n := n) (lH := mu st.l f n) ps
       have acb : ps.length * n <= 6 ^ k * 6 := Nat.mul_le_mul hl M4
       rw [Nat.pow_succ]; omega
theorem azh (g : DF c st f n) : ∀ (d v : Nat) (acc : ak (ak Int)), v + d = n -> acc.l.length + d <= 100000 -> ∃ z, bU (HY c) ((v : Int), acc) = some z /\ z.l = acc.l ++ ((List.range' v d).map fun a => enc [a])
 | 0, v, acc, af, _ => ⟨acc, by
   rw [kt]
   simp only [HY, g.hn, show decide ((v : Int) < (n : Int)) = false by simp; omega, cond_false], by simp⟩
 | d + 1, v, acc, af, hl => by
   have M4 := g.DG
   obtain ⟨z, e, el⟩ := azh g d (v + 1) (.mk (acc.l ++ [enc [v]])) (by omega) (by show (acc.l ++ [_]).length + d <= _; simp; omega)
   refine ⟨z, ?_, by rw [el, th]; simp [show (ak.mk (acc.l ++ [enc [v]])).l = acc.l ++ [enc [v]] from rfl]⟩
   rw [kt]
   simp only [HY, g.hn, show decide ((v : Int) < (n : Int)) = true by simp; omega, cond_true]
   rw [Vo _ (by omega) (by omega)]
   simp only [aW]
   rw [gf (by omega) (by omega)]
   exact e
def azi (c : Constraint) (v : List Int) : List Nat := bif AJ c v.length then (ay5 (mu v c.c2.toNat c.qz.toNat) c.qz.toNat).getD [] else []
theorem aEg (c : Constraint) (st : ak Int) (gT : st.l.length <= 100000) : ∃ z, HZ c st = some z /\ z.l = (azi c st.l).map fun (a : Nat) => (a : Int) := by
 unfold HZ azi
 rw [dF, ay8 c gT]
 cases bt : AJ c st.l.length with
 | false => exact ⟨_, rfl, rfl⟩
 | true =>
   have g := aD9 gT bt
   generalize c.c2.toNat = f at g
   generalize c.qz.toNat = n at g
   obtain ⟨z, oi, aP⟩ := azh g n 0 .nil (by omega) (by show 0 + n <= _; have := g.DG; omega)
   simp only [aW, cond_true]
   rw [show ((0 : Nat) : Int) = 0 from rfl] at oi
   rw [oi]
   simp only [aW]
   have hs : z.l = (AH.start n).map enc := by
    rw [aP, AH.start, <- Fa, qR]; rfl
   obtain ⟨y, lk, hy⟩ := azg g (n + 1) 1 (AH.start n) z (by omega) (by omega) aD7 hs (by unfold AH.start; rw [n4, List.length_range]; have := g.DG; omega)
   rw [lk]
   simp only [aW]
   unfold ay5
   cases hc : HJ (mu st.l f n) n (n + 1) (AH.start n) with
   | none => rw [hc] at hy; simp only at hy; subst hy; exact ⟨_, rfl, rfl⟩
   | some l => rw [hc] at hy; simp only at hy; subst hy; exact ⟨_, rfl, rfl⟩
end
end
end Go.Abs.U
namespace Go.Abs.U
open Go Go.Abs
noncomputable section
theorem M5 {S O : Type} {f : S -> Option (cM S O)} (I : Nat -> S -> Prop) (n : Nat) (h : ∀ k s, k < n -> I k s -> (∃ ar, f s = some (.next ar) /\ I (k + 1) ar) \/ ∃ o, f s = some (.out o)) (e : ∀ s, I n s -> ∃ o, f s = some (.out o)) {s : S} (h0 : I 0 s) : ∃ o, bU f s = some o := by
 have key : ∀ (d k : Nat) (s : S), k + d = n -> I k s -> ∃ o, bU f s = some o := by
  intro d
  induction d with
  | zero =>
    intro k s ai aZ
    have : k = n := by omega
    subst this
    obtain ⟨o, ho⟩ := e s aZ
    exact ⟨o, by rw [kt, ho]⟩
  | succ d ih =>
    intro k s ai aZ
    rcases h k s (by omega) aZ with ⟨ar, h1, h2⟩ | ⟨o, ho⟩
    · obtain ⟨o, ho⟩ := ih (k + 1) ar (by omega) h2
      exact ⟨o, by rw [kt, h1]; exact ho⟩
    · exact ⟨o, by rw [kt, ho]⟩
 exact key n 0 s (by omega) h0
theorem azj {α : Type} {x : ak α} {k : Nat} (h : x.l.length <= k) : decide ((k : Int) < x.len) = false := by rw [dF]; simp; exact h
theorem Vp (c : Constraint) (st : ak Int) (gT : st.l.length <= 100000) (hT : bl c.Row.cY.l) : ∃ b, AF c st = some b := by
 unfold AF
 cases c.Kind == 1 with
 | true =>
   simp only [cond_true]
   rw [dF, ay8 c gT]
   cases AJ c st.l.length with
   | false => exact ⟨_, rfl⟩
   | true =>
     obtain ⟨z, e, -⟩ := aEg c st gT
     simp only [aW, cond_true, e]
     exact ⟨_, rfl⟩
 | false =>
   simp only [cond_false]
   obtain ⟨o, ho⟩ := M5 (f := H3 c st) (I := fun k (s : Int × Int × Int) => s.2.2 = (k : Int)) c.Row.cY.l.length (fun k s ai aZ => by
    obtain ⟨a, b, i⟩ := s
    simp only at aZ
    subst aZ
    simp only [H3, fj ai, cond_true, c5, oV ai, aW]
    generalize c.Row.cY.l[k] = t
    cases hc : decide (t.Cell < 0) || decide (t.Cell >= st.len) with
    | true => exact .inr ⟨_, rfl⟩
    | false =>
      have OM := of_decide_eq_false (JH.1 hc).1
      have acR := of_decide_eq_false (JH.1 hc).2
      rw [dF] at acR
      have : aR st.l t.Cell = some (st.l.getD t.Cell.toNat 0) := by
       rw [u6 (by omega), oV (by omega), Bu, oV (by omega)]; rfl
      simp only [cond_false, this, aW]
      refine .inl ⟨_, rfl, ?_⟩
      simp only
      unfold bl at hT
      rw [ep (by omega)]) (fun s aZ => by
    obtain ⟨a, b, i⟩ := s
    simp only at aZ
    subst aZ
    simp only [H3, fP, cond_false]
    exact ⟨_, rfl⟩) (s := (0, 0, 0)) rfl
   rw [ho]
   simp only [aW]
   cases o with
   | ret p => exact ⟨_, rfl⟩
   | go p =>
     obtain ⟨x, y⟩ := p
     cases c.Kind == 0 <;> exact ⟨_, rfl⟩
def jK (l : List Int) (c : Change) : List Int := bif decide (c.Cell >= 0) && decide (c.Cell < l.length) then l.set c.Cell.toNat (aQ (l.getD c.Cell.toNat 0 + c.Add)) else l
def uN (l : List Int) (d : List Change) : List Int := d.foldl jK l
theorem M6 (l : List Int) (c : Change) : (jK l c).length = l.length := by
 unfold jK
 cases decide (c.Cell >= 0) && decide (c.Cell < l.length) <;> simp
theorem HL : ∀ (d : List Change) (l : List Int), (uN l d).length = l.length
 | [], _ => rfl
 | c :: r, l => by
   show (uN (jK l c) r).length = _
   rw [HL r, M6]
theorem Xt (n : Int) : ∃ k : Int, aQ n = n - 18446744073709551616 * k /\ -9223372036854775808 <= aQ n /\ aQ n <= 9223372036854775807 := by
 have e : IntKind.i64.signed = true := rfl
 have ah : (2 : Int) ^ IntKind.i64.bits = 18446744073709551616 := rfl
 have e2 : (2 : Int) ^ (IntKind.i64.bits - 1) = 9223372036854775808 := rfl
 by_cases h : n % 18446744073709551616 >= 9223372036854775808
 · have : aQ n = n % 18446744073709551616 - 18446744073709551616 := by
    unfold aQ IntKind.wrap
    simp only [e, ah, e2, dt, decide_eq_true_eq]
    rw [if_pos h]
   exact ⟨n / 18446744073709551616 + 1, by omega, by omega, by omega⟩
 · have : aQ n = n % 18446744073709551616 := by
    unfold aQ IntKind.wrap
    simp only [e, ah, e2, dt, decide_eq_true_eq]
    rw [if_neg h]
   exact ⟨n / 18446744073709551616, by omega, by omega, by omega⟩
theorem azk (x a b : Int) : aQ (aQ (x + a) + b) = aQ (x + a + b) := by
 obtain ⟨cn, h1, -, -⟩ := Xt (x + a)
 obtain ⟨dZ, h2, av, bc⟩ := Xt (aQ (x + a) + b)
 obtain ⟨lx, h5, gu, lv⟩ := Xt (x + a + b)
 omega
theorem aEh (l : List Int) (c d : Change) : jK (jK l c) d = jK (jK l d) c := by
 have hl := M6 l c
 have mJ := M6 l d
 by_cases h1 : c.Cell >= 0 /\ c.Cell < l.length
 · by_cases h2 : d.Cell >= 0 /\ d.Cell < l.length
   · have ah : (decide (c.Cell >= 0) && decide (c.Cell < l.length)) = true := by simp [h1]
     have e2 : (decide (d.Cell >= 0) && decide (d.Cell < l.length)) = true := by simp [h2]
     have s1 : jK l c = l.set c.Cell.toNat (aQ (l.getD c.Cell.toNat 0 + c.Add)) := by unfold jK; rw [ah]; rfl
     have s2 : jK l d = l.set d.Cell.toNat (aQ (l.getD d.Cell.toNat 0 + d.Add)) := by unfold jK; rw [e2]; rfl
     have b5 : (decide (d.Cell >= 0) && decide (d.Cell < (jK l c).length)) = true := by rw [hl]; exact e2
     have cU : (decide (c.Cell >= 0) && decide (c.Cell < (jK l d).length)) = true := by rw [mJ]; exact ah
     rw [show jK (jK l c) d = (jK l c).set d.Cell.toNat (aQ ((jK l c).getD d.Cell.toNat 0 + d.Add)) from by rw [jK.eq_def (jK l c) d, b5]; rfl,
      show jK (jK l d) c = (jK l d).set c.Cell.toNat (aQ ((jK l d).getD c.Cell.toNat 0 + c.Add)) from by rw [jK.eq_def (jK l d) c, cU]; rfl, s1, s2]
     by_cases M7 : c.Cell.toNat = d.Cell.toNat
     · rw [<- M7]
       have aH : c.Cell.toNat < l.length := by omega
       have g : ∀ x : Int, (l.set c.Cell.toNat x).getD c.Cell.toNat 0 = x := fun x => by
        rw [Bu, tc aH]; rfl
       rw [g, g, List.set_set, List.set_set, azk, azk, Int.add_right_comm]
     · have g1 : ∀ x : Int, (l.set c.Cell.toNat x).getD d.Cell.toNat 0 = l.getD d.Cell.toNat 0 := fun x => by
        rw [Bu, k4 M7, <- Bu]
       have g2 : ∀ x : Int, (l.set d.Cell.toNat x).getD c.Cell.toNat 0 = l.getD c.Cell.toNat 0 := fun x => by
        rw [Bu, k4 (ki M7), <- Bu]
       rw [g1, g2, List.set_comm _ _ M7]
   · have mR : ∀ m : List Int, m.length = l.length -> jK m d = m := fun m hm => by
      unfold jK
      rw [hm, show (decide (d.Cell >= 0) && decide (d.Cell < (l.length : Int))) = false from by rw [XC]; intro e; simp only [cd, decide_eq_true_eq] at e; exact h2 e]; rfl
     rw [mR _ hl, mR l rfl]
 · have mR : ∀ m : List Int, m.length = l.length -> jK m c = m := fun m hm => by
    unfold jK
    rw [hm, show (decide (c.Cell >= 0) && decide (c.Cell < (l.length : Int))) = false from by rw [XC]; intro e; simp only [cd, decide_eq_true_eq] at e; exact h1 e]; rfl
   rw [mR l rfl, mR _ mJ]
theorem aEi (l : List Int) (a b : List Change) : uN (uN l a) b = uN (uN l b) a := by
 unfold uN
 rw [<- List.foldl_append, <- List.foldl_append]
 exact List.Perm.foldl_eq' List.perm_append_comm (fun x _ y _ z => aEh z x y) l
theorem atk {α : Type} {s0 : Nat} {x : ak α} (hb : s0 + 1 <= 1000) (h : x.l.length <= 100000) : ∃ z, asR s0 x = some z /\ z.l = x.l := by
 cases x with
 | nil => exact ⟨_, rfl, rfl⟩
 | emp => exact ⟨_, rfl, rfl⟩
 | mk l =>
   obtain ⟨z, e, el⟩ := Bi (x := (ak.emp : ak α)) (y := ak.mk l) hb (by show 0 + l.length <= _; have : l.length <= 100000 := h; omega)
   exact ⟨z, e, by rw [el]; rfl⟩
theorem azl (a : ak Int) (d : ak Change) (ao : a.l.length <= 100000) (hd : bl d.l) : ∃ z, EN a d = some z /\ z.l = uN a.l d.l := by
 unfold EN
 obtain ⟨s, e, el⟩ := atk (s0 := 8) (x := a) (by omega) ao
 rw [e]
 simp only [aW]
 have key : ∀ (r : List Change) (k : Nat) (s : ak Int), d.l.drop k = r -> s.l.length = a.l.length -> ∃ z, bU (DW d) ((k : Int), s) = some z /\ z.l = uN s.l r := by
  intro r
  induction r with
  | nil =>
    intro k s hr hs
    have ai : d.l.length <= k := List.drop_eq_nil_iff.1 hr
    refine ⟨s, ?_, rfl⟩
    rw [kt]
    simp only [DW, azj ai, cond_false]
  | cons c r ih =>
    intro k s hr hs
    have aH : k < d.l.length := by
     rcases gg k d.l.length with q | q
     · exact q
     · rw [td q] at hr; cases hr
    have aEj : d.l[k]? = some c := by
     have := congrArg (·[0]?) hr
     simpa using this
    have fT : d.l.drop (k + 1) = r := by
     have := congrArg List.tail hr
     simpa using this
    have hn : ∃ ar, DW d ((k : Int), s) = some (.next (((k + 1 : Nat) : Int), ar)) /\ ar.l = jK s.l c := by
     unfold bl at hd
     simp only [DW, fj aH, cond_true, c5, aEj, aW]
     rw [ep (by omega)]
     unfold jK
     rw [show decide (c.Cell < (s.l.length : Int)) = decide (c.Cell < s.len) from rfl]
     cases hc : decide (c.Cell >= 0) && decide (c.Cell < s.len) with
     | false => exact ⟨s, rfl, rfl⟩
     | true =>
       have OM := of_decide_eq_true (Bool.and_eq_true_iff.1 hc).1
       have acR := of_decide_eq_true (Bool.and_eq_true_iff.1 hc).2
       rw [dF] at acR
       have : aR s.l c.Cell = some (s.l.getD c.Cell.toNat 0) := by
        rw [u6 (by omega), oV (by omega), Bu, oV (by omega)]; rfl
       simp only [cond_true, this, aW]
       exact ⟨_, rfl, rfl⟩
    obtain ⟨ar, h1, h2⟩ := hn
    obtain ⟨z, ah, e2⟩ := ih (k + 1) ar fT (by rw [h2, M6, hs])
    exact ⟨z, by rw [kt, h1]; exact ah, by rw [e2, h2]; rfl⟩
 obtain ⟨z, ah, e2⟩ := key d.l 0 s rfl (by rw [el])
 rw [show ((0 : Nat) : Int) = 0 from rfl] at ah
 rw [ah]
 exact ⟨z, rfl, by rw [e2, el]⟩
structure M8 (m : Model) : Prop where
 Yc : ∀ c ∈ m.c8.l, bl c.Row.cY.l
 aEk : bl m.c8.l
 act : ∀ a ∈ m.Actions.l, bl a.dM.Delta.l /\ bl a.dM.fC.l /\ ∀ r ∈ a.dM.fC.l, bl r.cY.l
theorem aEl {m : Model} (h : M8 m) {x : dM} (hx : bl x.Delta.l /\ bl x.fC.l /\ ∀ r ∈ x.fC.l, bl r.cY.l) (st : ak Int) (gT : st.l.length <= 100000) : ∃ r, Jd m x st = some r := by
 unfold Jd
 obtain ⟨o, ho⟩ := M5 (f := H5 x st) (I := fun k s => s = (k : Int)) x.fC.l.length (fun k s ai aZ => by
  subst aZ
  have vw := oV ai
  obtain ⟨b, hb⟩ := Vp (Constraint.mk 0 0 x.fC.l[k] 0 0) st gT (hx.2.2 _ (JQ ai))
  simp only [H5, fj ai, cond_true, c5, vw, aW, hb]
  cases b with
  | true => exact .inl ⟨_, rfl, ep (by have := hx.2.1; unfold bl at this; omega)⟩
  | false => exact .inr ⟨_, rfl⟩) (fun s aZ => by
  subst aZ
  simp only [H5, fP, cond_false]
  exact ⟨_, rfl⟩) (s := 0) rfl
 rw [ho]
 simp only [aW]
 cases o with
 | ret p => exact ⟨_, rfl⟩
 | go p =>
   obtain ⟨z, e, el⟩ := azl st x.Delta gT hx.1
   simp only [e, aW]
   obtain ⟨o, ho⟩ := M5 (f := I9 m z) (I := fun k s => s = (k : Int)) m.c8.l.length (fun k s ai aZ => by
    subst aZ
    have vw := oV ai
    obtain ⟨b, hb⟩ := Vp m.c8.l[k] z (by rw [el, HL]; exact gT) (h.Yc _ (JQ ai))
    simp only [I9, fj ai, cond_true, c5, vw, aW, hb]
    cases b with
    | true => exact .inl ⟨_, rfl, ep (by have := h.aEk; unfold bl at this; omega)⟩
    | false => exact .inr ⟨_, rfl⟩) (fun s aZ => by
    subst aZ
    simp only [I9, fP, cond_false]
    exact ⟨_, rfl⟩) (s := 0) rfl
   rw [ho]
   simp only [aW]
   cases o <;> exact ⟨_, rfl⟩
theorem azm {m : Model} (h : M8 m) {i : Nat} {a : Action} (hi : m.Actions.l[i]? = some a) (st : ak Int) (gT : st.l.length <= 100000) : ∃ z r, Fl m (i : Int) st = some (z, r) /\ z.l = bif r.Kind != 0 then st.l else uN st.l a.dM.Delta.l := by
 have ao := h.act a (fm hi)
 obtain ⟨r, hr⟩ := aEl h ao st gT
 unfold Fl
 simp only [c5, hi, aW, hr]
 cases ai : r.Kind != 0 with
 | true =>
   obtain ⟨z, e, el⟩ := atk (s0 := 8) (x := st) (by omega) gT
   exact ⟨z, r, by simp only [cond_true, e, aW], by rw [ai]; exact el⟩
 | false =>
   obtain ⟨z, e, el⟩ := azl st a.dM.Delta gT ao.1
   exact ⟨z, r, by simp only [cond_false, e, aW], by rw [ai]; exact el⟩
theorem azn {m : Model} (h : M8 m) {st : ak Int} (gT : st.l.length <= 100000) (af : DA m st = some true) {i j : Nat} {a b : Action} (hi : m.Actions.l[i]? = some a) (hj : m.Actions.l[j]? = some b) :
  ∃ z x y, HE m st (ak.mk [(i : Int), (j : Int)]) = some (z, ak.mk [x, y], 0) /\ (x.Kind = 0 -> y.Kind = 0 -> z.l = uN (uN st.l a.dM.Delta.l) b.dM.Delta.l) := by
 have aq2 := eI hi
 have aEm := eI hj
 obtain ⟨s, es, Xx⟩ := atk (s0 := 8) (x := st) (by omega) gT
 obtain ⟨xF, bG, ah, b2⟩ := azm h hi s (by rw [Xx]; exact gT)
 have Rd : xF.l.length <= 100000 := by
  rw [b2, Xx]
  cases bG.Kind != 0 with
  | true => exact gT
  | false => show (uN _ _).length <= _; rw [HL]; exact gT
 obtain ⟨z2, ch, e2, jZ⟩ := azm h hj xF Rd
 refine ⟨z2, bG, ch, ?_, fun cn dZ => ?_⟩
 · unfold HE
   rw [af]
   simp only [aW, cond_true]
   have hc : C7 (ak.mk [(i : Int), (j : Int)]) (fun z0 => O7 m z0) = some ((ak.mk [(i : Int), (j : Int)]).l.any fun z => decide (z < 0) || decide (z >= m.Actions.len)) :=
    Oz (ak.mk [(i : Int), (j : Int)]) (by unfold bl; show 2 < _; omega) (fun x _ => rfl)
   rw [hc, show ((ak.mk [(i : Int), (j : Int)]).l.any fun z => decide (z < 0) || decide (z >= m.Actions.len)) = false from by
    show ([(i : Int), (j : Int)].any _) = false
    have q : ∀ k : Nat, k < m.Actions.l.length -> (decide ((k : Int) < 0) || decide ((k : Int) >= m.Actions.len)) = false := fun k ai => by
     rw [JH]
     exact ⟨decide_eq_false (by omega), decide_eq_false (by rw [dF]; omega)⟩
    simp only [List.any_cons, List.any_nil, q i aq2, q j aEm, Bool.or_false]]
   simp only [aW, cond_false, es]
   rw [show decide ((0 : Int) < (ak.mk [(i : Int), (j : Int)]).len) = true from rfl]
   simp only [cond_true]
   rw [show aR (ak.mk [(i : Int), (j : Int)]).l 0 = some (i : Int) from rfl]
   simp only [aW, ah]
   rw [show rv 16 ak.nil (ak.mk [bG]) = some (ak.mk [bG]) from rfl]
   simp only [aW]
   rw [show aQ (0 + 1) = 1 from rfl, kt]
   have dT : PC m (ak.mk [(i : Int), (j : Int)]) (xF, 1, ak.mk [bG]) = some (.next (z2, 2, ak.mk [bG, ch])) := by
    simp only [PC]
    rw [show decide ((1 : Int) < (ak.mk [(i : Int), (j : Int)]).len) = true from rfl, show aR (ak.mk [(i : Int), (j : Int)]).l 1 = some (j : Int) from rfl]
    simp only [cond_true, aW, e2]
    rfl
   rw [dT]
   simp only
   rw [kt]
   rfl
 · rw [jZ, dZ, b2, cn, Xx]; rfl
theorem aEn {a b : ak Int} (h : a.l = b.l) (hl : bl a.l) : Jh a b = some true := by
 unfold Jh
 rw [show (a.len != b.len) = false from by rw [dF, dF, h]; simp]
 simp only [cond_false]
 have key : ∀ (d k : Nat), k + d = a.l.length -> bU (Jf a b) (k : Int) = some (.go ()) := by
  intro d
  induction d with
  | zero =>
    intro k ai
    rw [kt]
    simp only [Jf, azj (show a.l.length <= k by omega), cond_false]
  | succ d ih =>
    intro k ai
    have aH : k < a.l.length := by omega
    rw [kt]
    simp only [Jf, fj aH, cond_true, c5]
    rw [<- h, oV aH]
    simp only [aW, bne_self_eq_false, cond_false]
    rw [ep (by unfold bl at hl; omega)]
    exact ih (k + 1) (by omega)
 have := key a.l.length 0 (by omega)
 rw [show ((0 : Nat) : Int) = 0 from rfl] at this
 rw [this]; rfl
theorem aEo (l : ak Int) (h : bl l.l) : ∃ b, HW l = some b /\ (b = true -> l.l.length <= 128) := by
 unfold HW
 obtain ⟨o, ho⟩ := M5 (f := HV l) (I := fun k s => s = (k : Int)) l.l.length (fun k s ai aZ => by
  subst aZ
  simp only [HV, fj ai, cond_true, c5, oV ai, aW]
  cases decide (l.l[k] < -1000000) with
  | true => exact .inr ⟨_, rfl⟩
  | false =>
    cases decide (l.l[k] > 1000000) with
    | true => exact .inr ⟨_, rfl⟩
    | false => exact .inl ⟨_, rfl, ep (by unfold bl at h; omega)⟩) (fun s aZ => by
  subst aZ
  simp only [HV, fP, cond_false]
  exact ⟨_, rfl⟩) (s := 0) rfl
 rw [ho]
 simp only [aW]
 cases o with
 | go p => exact ⟨_, rfl, fun hb => by have := of_decide_eq_true hb; rw [dF] at this; omega⟩
 | ret p => exact ⟨_, rfl, fun hb => by cases hb⟩
theorem Xz {m : Model} (b : O5 m) : M8 m := ⟨fun c hc => by have := b.Yc c hc; unfold bl; omega, by have := b.cons; unfold bl; omega, fun a ao => by
 have := (b.act a ao).2
 exact ⟨this.d, this.h, this.r⟩⟩
theorem aEp {m : Model} (b : O5 m) (st : ak Int) (gT : st.l.length <= 100000) : ∃ v, DA m st = some v := by
 unfold DA OE
 rw [amu b]
 cases zd m with
 | false => exact ⟨_, rfl⟩
 | true =>
   obtain ⟨x, e, -⟩ := ak4 m.aO m.Tables true (by have := b.Ya; unfold bl; omega) (by have := b.tables; unfold bl; omega) (fun t ht => by have := b.ad t ht; unfold bl; omega)
   unfold Nj
   simp only [aW, cond_true, e]
   cases st.len == x.len with
   | false => exact ⟨_, rfl⟩
   | true =>
     simp only [cond_true]
     have : OG m.c8 (fun z0 => H4 st z0) = some (m.c8.l.any fun c => !((AF c st).getD false)) :=
      EJ m.c8 (by have := b.cons; omega) fun c hc => by
       obtain ⟨v, af⟩ := Vp c st gT ((Xz b).Yc c hc)
       simp only [H4, af, aW, vg]
     rw [this]
     exact ⟨_, rfl⟩
theorem aEq (m : Model) (a c : Int) (st : ak Int) (ao : 0 <= a /\ a <= 255) (hc : 0 <= c /\ c <= 255) (cp : bl st.l) : Jj m a c st = some true := by
 unfold Jj Ni
 rw [amq m]
 simp only [aW, cond_true]
 cases hb : Bo m with
 | false => rfl
 | true =>
 have b := Yd hb
 obtain ⟨f, ae, lg⟩ := aEo st cp
 simp only [cond_true, ae, aW]
 cases f with
 | false => rfl
 | true =>
 have gT : st.l.length <= 100000 := by have := lg rfl; omega
 obtain ⟨v, af⟩ := aEp b st gT
 simp only [cond_true, af, aW]
 cases v with
 | false => rfl
 | true =>
 simp only [cond_true, aW]
 cases hn : m.Actions.len == 0 with
 | true => rfl
 | false =>
 have uv : 1 <= m.Actions.l.length := by
  have : ¬ m.Actions.len = 0 := by simpa using hn
  rw [dF] at this; omega
 have hA := b.s7
 simp only [cond_false]
 have pick : ∀ x : Int, 0 <= x /\ x <= 255 -> ∃ k : Nat, Al (aQ x) m.Actions.len = some (k : Int) /\ k < m.Actions.l.length := fun x hx => by
  have h1 := Int.emod_nonneg x (b := (m.Actions.l.length : Int)) (by omega)
  have h2 := Int.emod_lt_of_pos x (b := (m.Actions.l.length : Int)) (by omega)
  refine ⟨(x % m.Actions.l.length).toNat, ?_, by omega⟩
  rw [gf (by omega) (by omega), dF, XK hx.1 (by omega)]
  congr 1; omega
 obtain ⟨i, arM, hi⟩ := pick a ao
 obtain ⟨j, aaT, hj⟩ := pick c hc
 have X5 := oV hi
 have azo := oV hj
 obtain ⟨z, x, y, oi, aP⟩ := azn (Xz b) gT af X5 azo
 obtain ⟨RE, x', y', aEr, aEs⟩ := azn (Xz b) gT af azo X5
 simp only [arM, aaT, aW, oi, aEr]
 rw [show (((0 : Int) != 0) || (((0 : Int) != 0) || (((ak.mk [x, y]).len != 2) || ((ak.mk [x', y']).len != 2)))) = false from rfl]
 simp only [cond_false]
 have two : ∀ {k : Nat}, k < 2 -> True := fun _ => trivial
 have dT : bU (DB (z, ak.mk [x, y], 0) (RE, ak.mk [x', y'], 0)) 0 = some (bif (x.Kind != 0 || x'.Kind != 0) || (y.Kind != 0 || y'.Kind != 0) then .ret () else .go ()) := by
  have sU : DB (z, ak.mk [x, y], 0) (RE, ak.mk [x', y'], 0) 0 = some (bif x.Kind != 0 || x'.Kind != 0 then .out (.ret ()) else .next 1) := by
   simp only [DB]
   rw [show decide ((0 : Int) < 2) = true from rfl, show aR (ak.mk [x, y]).l 0 = some x from rfl, show aR (ak.mk [x', y']).l 0 = some x' from rfl]
   simp only [cond_true, aW]
   cases x.Kind != 0 <;> cases x'.Kind != 0 <;> rfl
  have s1 : DB (z, ak.mk [x, y], 0) (RE, ak.mk [x', y'], 0) 1 = some (bif y.Kind != 0 || y'.Kind != 0 then .out (.ret ()) else .next 2) := by
   simp only [DB]
   rw [show decide ((1 : Int) < 2) = true from rfl, show aR (ak.mk [x, y]).l 1 = some y from rfl, show aR (ak.mk [x', y']).l 1 = some y' from rfl]
   simp only [cond_true, aW]
   cases y.Kind != 0 <;> cases y'.Kind != 0 <;> rfl
  rw [kt, sU]
  cases x.Kind != 0 || x'.Kind != 0 with
  | true => rfl
  | false =>
    simp only [cond_false, tj]
    rw [kt, s1]
    cases y.Kind != 0 || y'.Kind != 0 with
    | true => rfl
    | false =>
      simp only [cond_false]
      rw [kt]
      rfl
 rw [dT]
 simp only [aW]
 cases ai : (x.Kind != 0 || x'.Kind != 0) || (y.Kind != 0 || y'.Kind != 0) with
 | true => rfl
 | false =>
   simp only [JH, bne_eq_false_iff_eq] at ai
   obtain ⟨⟨cn, dZ⟩, lx, W3⟩ := ai
   have h1 := aP cn lx
   have h2 := aEs dZ W3
   simp only [cond_false]
   rw [aEn (a := z) (b := RE) (by rw [h1, h2, aEi]) (by unfold bl; rw [h1, HL, HL]; omega)]
   rfl
end
end Go.Abs.U
