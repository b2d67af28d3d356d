/- Texts of this claim, joined and written short by a program. -/
import Derived.Test.YtaenhebjdjpdgaaGreatDoorP35
import Derived.Test.YtaenhebjdjpdgaaGreatDoorP36
import Derived.Deep.DeepWitnessRowRef
import Derived.Test.YtaenhebjdjpdgaaGreatDoorP00
set_option linter.unusedVariables false
set_option linter.unusedSimpArgs false
namespace Go.Abs.b1
open Go Go.Abs Go.Proofs
set_option maxRecDepth 100000
theorem r0 {H A : Type} {P : Program} {t e : TypeId} {es : Nat} {f : A -> V} {d : DataW H} {l : List V} (ht : P.underlying t = some (.slice e)) (fL : P.cellsOf e = es) (he : ∀ (d : DataW H) l, e4 P e d l -> ∃ a : A, rZ l = f a) (h : e4 P t d l) : ∃ s : ak A, l = [bP es f s] := by
 rcases aoy ht h with ⟨-, rfl⟩ | ⟨elems, spare, ls, -, rfl, hl, hr⟩
 · exact ⟨.nil, rfl⟩
 · have : ∀ (ls : List (List V)), (∀ l ∈ ls, ∃ a : A, rZ l = f a) -> ∃ xs : List A, ls.map rZ = xs.map f := by
    intro ls
    induction ls with
    | nil => exact fun _ => ⟨[], rfl⟩
    | cons l ls ih =>
      intro h
      obtain ⟨a, ao⟩ := h l (by simp)
      obtain ⟨xs, hx⟩ := ih fun l hl => h l (by simp [hl])
      exact ⟨a :: xs, by rw [eD, eD, ao, hx]⟩
   obtain ⟨xs, hx⟩ := this ls fun l Jz => by
    obtain ⟨i, hi⟩ := List.getElem?_of_mem Jz
    have qu : i < ls.length := (fy.1 hi).1
    exact he _ l (hr i _ l (oV (by omega)) hi)
   exact ⟨.mk xs, by rw [hx, fL]; rfl⟩
theorem wV {α : Type} {l : List α} (h : l.length = 2) : ∃ a0 al, l = [a0, al] := by
 match l, h with
 | [a0, al], _ => exact ⟨a0, al, rfl⟩
theorem tb {α : Type} {l : List α} (h : l.length = 3) : ∃ a0 al a2, l = [a0, al, a2] := by
 match l, h with
 | [a0, al, a2], _ => exact ⟨a0, al, a2, rfl⟩
theorem JA {α : Type} {l : List α} (h : l.length = 5) : ∃ a0 al a2 a3 a4, l = [a0, al, a2, a3, a4] := by
 match l, h with
 | [a0, al, a2, a3, a4], _ => exact ⟨a0, al, a2, a3, a4, rfl⟩
theorem YO {α : Type} {l : List α} (h : l.length = 7) : ∃ a0 al a2 a3 a4 a5 Bp, l = [a0, al, a2, a3, a4, a5, Bp] := by
 match l, h with
 | [a0, al, a2, a3, a4, a5, Bp], _ => exact ⟨a0, al, a2, a3, a4, a5, Bp, rfl⟩
section
variable {W : World} {H : Type} {enc : TypeId × Value -> H}
theorem JB {d : DataW H} {l : List V} (h : e4 Tryz.prog 22 d l) : ∃ s : ak Int, l = [bP 1 aI s] :=
 r0 Tryz.underlying22 (by kernel_rfl) (fun d l h => by obtain ⟨n, -, rfl, -⟩ := kE Tryz.underlying3 h; exact ⟨n, rfl⟩) h
theorem aoM {d : DataW H} {l : List V} (h : e4 Tryz.prog 58 d l) : ∃ x : Range, l = aG (pA x) := by
 obtain ⟨parts, ls, -, rfl, hp, hl, hr⟩ := qM Tryz.underlying58 h
 obtain ⟨pk, p1, rfl⟩ := wV hp
 obtain ⟨oz, b2, rfl⟩ := wV hl
 obtain ⟨b8, -, rfl, -⟩ := kE Tryz.underlying3 (hr 0 _ _ _ rfl rfl rfl)
 obtain ⟨bu, -, rfl, -⟩ := kE Tryz.underlying3 (hr 1 _ _ _ rfl rfl rfl)
 exact ⟨⟨b8, bu⟩, rfl⟩
theorem aoN {d : DataW H} {l : List V} (h : e4 Tryz.prog 60 d l) : ∃ x : Table, l = aG (kU x) := by
 obtain ⟨parts, ls, -, rfl, hp, hl, hr⟩ := qM Tryz.underlying60 h
 obtain ⟨pk, p1, p2, p3, lu, rfl⟩ := JA hp
 obtain ⟨oz, b2, jZ, IU, Jt, rfl⟩ := JA hl
 obtain ⟨b8, -, rfl⟩ := Pw Tryz.underlying9 (hr 0 _ _ _ rfl rfl rfl)
 obtain ⟨bu, -, rfl, -⟩ := kE Tryz.underlying3 (hr 1 _ _ _ rfl rfl rfl)
 obtain ⟨cq, rfl⟩ := JB (hr 2 _ _ _ rfl rfl rfl)
 obtain ⟨dd, rfl⟩ := aoM (hr 3 _ _ _ rfl rfl rfl)
 obtain ⟨kc, -, rfl, -⟩ := kE Tryz.underlying3 (hr 4 _ _ _ rfl rfl rfl)
 exact ⟨⟨b8, bu, cq, dd, kc⟩, rfl⟩
theorem aoO {d : DataW H} {l : List V} (h : e4 Tryz.prog 23 d l) : ∃ s : ak Table, l = [bP 6 kU s] :=
 r0 Tryz.underlying23 (by kernel_rfl) (fun d l h => by obtain ⟨x, rfl⟩ := aoN h; exact ⟨x, rfl⟩) h
theorem aoP {d : DataW H} {l : List V} (h : e4 Tryz.prog 24 d l) : ∃ s : ak bQ, l = [bP 1 V.str s] :=
 r0 Tryz.underlying24 (by kernel_rfl) (fun d l h => by obtain ⟨n, -, rfl⟩ := Pw Tryz.underlying9 h; exact ⟨n, rfl⟩) h
theorem aoQ {d : DataW H} {l : List V} (h : e4 Tryz.prog 143 d l) : ∃ x : Term, l = aG (sL x) := by
 obtain ⟨parts, ls, -, rfl, hp, hl, hr⟩ := qM Tryz.underlying143 h
 obtain ⟨pk, p1, rfl⟩ := wV hp
 obtain ⟨oz, b2, rfl⟩ := wV hl
 obtain ⟨b8, -, rfl, -⟩ := kE Tryz.underlying3 (hr 0 _ _ _ rfl rfl rfl)
 obtain ⟨bu, -, rfl, -⟩ := kE Tryz.underlying3 (hr 1 _ _ _ rfl rfl rfl)
 exact ⟨⟨b8, bu⟩, rfl⟩
theorem aoR {d : DataW H} {l : List V} (h : e4 Tryz.prog 36 d l) : ∃ s : ak Term, l = [bP 2 sL s] :=
 r0 Tryz.underlying36 (by kernel_rfl) (fun d l h => by obtain ⟨x, rfl⟩ := aoQ h; exact ⟨x, rfl⟩) h
theorem YP {d : DataW H} {l : List V} (h : e4 Tryz.prog 38 d l) : ∃ x : Row, l = aG (sM x) := by
 obtain ⟨parts, ls, -, rfl, hp, hl, hr⟩ := qM Tryz.underlying38 h
 obtain ⟨pk, p1, rfl⟩ := wV hp
 obtain ⟨oz, b2, rfl⟩ := wV hl
 obtain ⟨b8, rfl⟩ := aoR (hr 0 _ _ _ rfl rfl rfl)
 obtain ⟨bu, -, rfl, -⟩ := kE Tryz.underlying3 (hr 1 _ _ _ rfl rfl rfl)
 exact ⟨⟨b8, bu⟩, rfl⟩
theorem aoS {d : DataW H} {l : List V} (h : e4 Tryz.prog 40 d l) : ∃ x : Constraint, l = aG (rD x) := by
 obtain ⟨parts, ls, -, rfl, hp, hl, hr⟩ := qM Tryz.underlying40 h
 obtain ⟨pk, p1, p2, p3, lu, rfl⟩ := JA hp
 obtain ⟨oz, b2, jZ, IU, Jt, rfl⟩ := JA hl
 obtain ⟨b8, -, rfl, -⟩ := kE Tryz.underlying3 (hr 0 _ _ _ rfl rfl rfl)
 obtain ⟨bu, -, rfl, -⟩ := kE Tryz.underlying3 (hr 1 _ _ _ rfl rfl rfl)
 obtain ⟨cq, rfl⟩ := YP (hr 2 _ _ _ rfl rfl rfl)
 obtain ⟨dd, -, rfl, -⟩ := kE Tryz.underlying3 (hr 3 _ _ _ rfl rfl rfl)
 obtain ⟨kc, -, rfl, -⟩ := kE Tryz.underlying3 (hr 4 _ _ _ rfl rfl rfl)
 exact ⟨⟨b8, bu, cq, dd, kc⟩, rfl⟩
theorem aoT {d : DataW H} {l : List V} (h : e4 Tryz.prog 25 d l) : ∃ s : ak Constraint, l = [bP 6 rD s] :=
 r0 Tryz.underlying25 (by kernel_rfl) (fun d l h => by obtain ⟨x, rfl⟩ := aoS h; exact ⟨x, rfl⟩) h
theorem aoU {d : DataW H} {l : List V} (h : e4 Tryz.prog 83 d l) : ∃ x : cG, l = aG (rE x) := by
 obtain ⟨parts, ls, -, rfl, hp, hl, hr⟩ := qM Tryz.underlying83 h
 obtain ⟨pk, p1, p2, rfl⟩ := tb hp
 obtain ⟨oz, b2, jZ, rfl⟩ := tb hl
 obtain ⟨b8, -, rfl⟩ := Pw Tryz.underlying9 (hr 0 _ _ _ rfl rfl rfl)
 obtain ⟨bu, -, rfl⟩ := aox Tryz.underlying4 (hr 1 _ _ _ rfl rfl rfl)
 obtain ⟨cq, rfl⟩ := JB (hr 2 _ _ _ rfl rfl rfl)
 exact ⟨⟨b8, bu, cq⟩, rfl⟩
theorem aoV {d : DataW H} {l : List V} (h : e4 Tryz.prog 26 d l) : ∃ s : ak cG, l = [bP 3 rE s] :=
 r0 Tryz.underlying26 (by kernel_rfl) (fun d l h => by obtain ⟨x, rfl⟩ := aoU h; exact ⟨x, rfl⟩) h
theorem aoW {d : DataW H} {l : List V} (h : e4 Tryz.prog 52 d l) : ∃ x : Change, l = aG (sN x) := by
 obtain ⟨parts, ls, -, rfl, hp, hl, hr⟩ := qM Tryz.underlying52 h
 obtain ⟨pk, p1, rfl⟩ := wV hp
 obtain ⟨oz, b2, rfl⟩ := wV hl
 obtain ⟨b8, -, rfl, -⟩ := kE Tryz.underlying3 (hr 0 _ _ _ rfl rfl rfl)
 obtain ⟨bu, -, rfl, -⟩ := kE Tryz.underlying3 (hr 1 _ _ _ rfl rfl rfl)
 exact ⟨⟨b8, bu⟩, rfl⟩
theorem aoX {d : DataW H} {l : List V} (h : e4 Tryz.prog 44 d l) : ∃ s : ak Change, l = [bP 2 sN s] :=
 r0 Tryz.underlying44 (by kernel_rfl) (fun d l h => by obtain ⟨x, rfl⟩ := aoW h; exact ⟨x, rfl⟩) h
theorem aoY {d : DataW H} {l : List V} (h : e4 Tryz.prog 45 d l) : ∃ s : ak Row, l = [bP 2 sM s] :=
 r0 Tryz.underlying45 (by kernel_rfl) (fun d l h => by obtain ⟨x, rfl⟩ := YP h; exact ⟨x, rfl⟩) h
theorem aoZ {d : DataW H} {l : List V} (h : e4 Tryz.prog 122 d l) : ∃ x : jt, l = aG (sO x) := by
 obtain ⟨parts, ls, -, rfl, hp, hl, hr⟩ := qM Tryz.underlying122 h
 obtain ⟨pk, p1, p2, rfl⟩ := tb hp
 obtain ⟨oz, b2, jZ, rfl⟩ := tb hl
 obtain ⟨b8, -, rfl, -⟩ := kE Tryz.underlying3 (hr 0 _ _ _ rfl rfl rfl)
 obtain ⟨bu, -, rfl, -⟩ := kE Tryz.underlying3 (hr 1 _ _ _ rfl rfl rfl)
 obtain ⟨cq, -, rfl, -⟩ := kE Tryz.underlying3 (hr 2 _ _ _ rfl rfl rfl)
 exact ⟨⟨b8, bu, cq⟩, rfl⟩
theorem ao0 {d : DataW H} {l : List V} (h : e4 Tryz.prog 46 d l) : ∃ s : ak jt, l = [bP 3 sO s] :=
 r0 Tryz.underlying46 (by kernel_rfl) (fun d l h => by obtain ⟨x, rfl⟩ := aoZ h; exact ⟨x, rfl⟩) h
theorem ao1 {d : DataW H} {l : List V} (h : e4 Tryz.prog 48 d l) : ∃ x : dM, l = aG (Ar x) := by
 obtain ⟨parts, ls, -, rfl, hp, hl, hr⟩ := qM Tryz.underlying48 h
 obtain ⟨pk, p1, p2, rfl⟩ := tb hp
 obtain ⟨oz, b2, jZ, rfl⟩ := tb hl
 obtain ⟨b8, rfl⟩ := aoX (hr 0 _ _ _ rfl rfl rfl)
 obtain ⟨bu, rfl⟩ := aoY (hr 1 _ _ _ rfl rfl rfl)
 obtain ⟨cq, rfl⟩ := ao0 (hr 2 _ _ _ rfl rfl rfl)
 exact ⟨⟨b8, bu, cq⟩, rfl⟩
theorem ao2 {d : DataW H} {l : List V} (h : e4 Tryz.prog 50 d l) : ∃ x : Action, l = aG (rF x) := by
 obtain ⟨parts, ls, -, rfl, hp, hl, hr⟩ := qM Tryz.underlying50 h
 obtain ⟨pk, p1, p2, rfl⟩ := tb hp
 obtain ⟨oz, b2, jZ, rfl⟩ := tb hl
 obtain ⟨b8, -, rfl, -⟩ := kE Tryz.underlying3 (hr 0 _ _ _ rfl rfl rfl)
 obtain ⟨bu, rfl⟩ := JB (hr 1 _ _ _ rfl rfl rfl)
 obtain ⟨cq, rfl⟩ := ao1 (hr 2 _ _ _ rfl rfl rfl)
 exact ⟨⟨b8, bu, cq⟩, rfl⟩
theorem ao3 {d : DataW H} {l : List V} (h : e4 Tryz.prog 27 d l) : ∃ s : ak Action, l = [bP 5 rF s] :=
 r0 Tryz.underlying27 (by kernel_rfl) (fun d l h => by obtain ⟨x, rfl⟩ := ao2 h; exact ⟨x, rfl⟩) h
theorem ao4 {d : DataW H} {l : List V} (h : e4 Tryz.prog 55 d l) : ∃ x : fN, l = aG (iF x) := by
 obtain ⟨parts, ls, -, rfl, hp, hl, hr⟩ := qM Tryz.underlying55 h
 obtain ⟨pk, p1, p2, rfl⟩ := tb hp
 obtain ⟨oz, b2, jZ, rfl⟩ := tb hl
 obtain ⟨b8, -, rfl, -⟩ := kE Tryz.underlying3 (hr 0 _ _ _ rfl rfl rfl)
 obtain ⟨bu, -, rfl, -⟩ := kE Tryz.underlying3 (hr 1 _ _ _ rfl rfl rfl)
 obtain ⟨cq, -, rfl, -⟩ := kE Tryz.underlying3 (hr 2 _ _ _ rfl rfl rfl)
 exact ⟨⟨b8, bu, cq⟩, rfl⟩
theorem ao5 {d : DataW H} {l : List V} (h : e4 Tryz.prog 28 d l) : ∃ s : ak fN, l = [bP 3 iF s] :=
 r0 Tryz.underlying28 (by kernel_rfl) (fun d l h => by obtain ⟨x, rfl⟩ := ao4 h; exact ⟨x, rfl⟩) h
theorem ao6 {d : DataW H} {l : List V} (h : e4 Tryz.prog 30 d l) : ∃ x : Model, l = aG (uF x) := by
 obtain ⟨parts, ls, -, rfl, hp, hl, hr⟩ := qM Tryz.underlying30 h
 obtain ⟨pk, p1, p2, p3, lu, rM, Ey, rfl⟩ := YO hp
 obtain ⟨oz, b2, jZ, IU, Jt, zf, wQ, rfl⟩ := YO hl
 obtain ⟨b8, rfl⟩ := JB (hr 0 _ _ _ rfl rfl rfl)
 obtain ⟨bu, rfl⟩ := aoO (hr 1 _ _ _ rfl rfl rfl)
 obtain ⟨cq, rfl⟩ := aoP (hr 2 _ _ _ rfl rfl rfl)
 obtain ⟨dd, rfl⟩ := aoT (hr 3 _ _ _ rfl rfl rfl)
 obtain ⟨kc, rfl⟩ := aoV (hr 4 _ _ _ rfl rfl rfl)
 obtain ⟨eM, rfl⟩ := ao3 (hr 5 _ _ _ rfl rfl rfl)
 obtain ⟨nV, rfl⟩ := ao5 (hr 6 _ _ _ rfl rfl rfl)
 exact ⟨⟨b8, bu, cq, dd, kc, eM, nV⟩, rfl⟩
theorem ao7 : wU Tryz.prog 12 30 = true := by kernel_rfl
theorem ao8 : 30 < Tryz.prog.types.size := of_decide_eq_true (by kernel_rfl)
theorem ao9 {b : Nat} {v : Value} (hval : Value.okWide Tryz.prog W .any b 30 v) : ∃ cs, v = .agg cs := by
 unfold Value.okWide at hval
 rw [Tryz.underlying30] at hval
 cases v <;> first | exact ⟨_, rfl⟩ | (simp at hval)
theorem apa {b : Nat} {v : Value} (hval : Value.okWide Tryz.prog W .any b 30 v) {d : DataW H} {p : List MemPlace} {held : Bool} (hd : DataW.Trod enc Tryz.prog W 0 (fun _ => true) held 30 v d p) : ∃ m : Model, fE W (ue W).I (uF m) v := by
 obtain ⟨cs, rfl⟩ := ao9 hval
 obtain ⟨fuel, hd⟩ := hd
 obtain ⟨vs, bG, ch, -⟩ := reads laidOut 12 fuel 30 _ _ ao8 ao7 hd
 obtain ⟨m, rfl⟩ := ao6 bG
 exact ⟨m, .agg _ cs.toList ch⟩
end
end Go.Abs.b1
namespace Go.Proofs.YtaenhebjdjpdgaaGreatDoor.valid
open Go Go.Abs Go.Abs.b1 Go.Proofs Go.ChangeShapes Go.WideShapes Go.ChangeAt Go.RowKit
set_option maxRecDepth 100000
theorem apb {H : Type} {enc : TypeId × Value -> H} {f : Func} {s : ChangeSpec} {apart fresh handsOn again : Bool} {W W' : World} {args : Array Value} {ds gs : List (DataW H)} {before : List MemPlace} {G' : bT} {H' : Heap}
  (hW : DataW.Whole enc Tryz.prog f.params.toList s.vars apart W args.toList ds gs before) (af : s.vars = []) (hT : ∀ t ∈ f.params.toList, t < Tryz.prog.types.size) (hr : f.resultTypes = #[4])
  (j4 : (s.fn H (ds ++ gs)).results = [.lit (.bool true)]) (apc : gs = [] -> (s.fn H (ds ++ gs)).args = ds) (A5 : (s.fn H (ds ++ gs)).vars = [])
  (aa : bb (C fun b => W.heap[b]?) id G' H' W') (ho : W'.os = W.os) (hp : W'.output = W.output) : s.post enc Tryz.prog f apart fresh handsOn again W args (.bool true) W' := by
 have aH := hW.lt
 have hold : ∀ p ∈ before, (fun b => decide (b < W.heap.size)) p.block = true := fun p hp => by simpa using aH p hp
 have apd := hW
 obtain ⟨asF, q, hA, hV, tC, aP, hn⟩ := hW
 rw [af] at hV
 obtain ⟨xh, rfl⟩ := trodVars_none hV
 rw [vh] at tC
 subst tC
 have vG : ∀ sp : Nat -> Bool, (∀ p ∈ before, sp p.block = true) -> DataW.TrodAll enc Tryz.prog W' 0 sp true f.params.toList args.toList (s.fn H (ds ++ gs)).args before := fun sp lX => by
  rw [apc xh]
  exact YM kids (fun h hu => aoJ h hu) hT hA (fun q bD => aoK aa (aH q bD)) lX
 have YQ : ∀ sp : Nat -> Bool, DataW.TrodVars enc Tryz.prog W' sp s.vars (s.fn H (ds ++ gs)).vars [] := fun sp => by rw [af, A5]; rfl
 have sy : ∀ (b : Nat) (sp : Nat -> Bool) (hd : Bool), DataW.TrodAll enc Tryz.prog W' b sp hd f.resultTypes.toList ((Value.bool true).resultList f.resultTypes.size) (s.fn H (ds ++ gs)).results [] := fun b sp hd => by
  rw [hr, j4]
  exact trodAll_cons_mk (shut_bool Tryz.underlying4 _) trodAll_mk0
 refine ⟨ds, gs, before, [], before, [], apd, sy _ _ _, vG _ hold, YQ _, aoB aa ho hp _, fun _ => ?_⟩
 refine ⟨ok_one hr rfl (okWide_bool_mk Tryz.underlying4 _), _, _, ([] ++ before) ++ [], ⟨[] ++ before, [], trodAll_append (vG _ (fun _ _ => rfl)) (sy _ _ _), YQ _, rfl, ?_, ?_⟩, ?_⟩
 · intro b off oo
   have hm : MemPlace.cell b off ∈ before := by simpa using oo
   rw [aoL aa (aH _ hm)]
   exact aP b off hm
 · intro ao
   simpa using hn ao
 · intro p oo _
   simpa using oo
theorem ape {W : World} (h : laidMetH Tryz.prog Rows.modelsValidRow.laid W) : Lib.TabIs Tryz.prog W "strings.asciiSpace" .u8 Lib.asciiSpaceTab := by
 have ae : (Rows.modelsValidRow.laid.filter fun x => x.2.handleName?.isSome) = [] := by kernel_rfl
 unfold laidMetH at h
 rw [ae] at h
 have hm : ("strings.asciiSpace", Lib.tabData .u8 Lib.asciiSpaceTab) ∈ Rows.modelsValidRow.laid := by
  have e : Rows.modelsValidRow.laid[7]? = some ("strings.asciiSpace", Lib.tabData .u8 Lib.asciiSpaceTab) := by kernel_rfl
  exact fm e
 exact aoC (g := 0) (t := 380) (e := 5) (n := 256) (by kernel_rfl) (by kernel_rfl) (by kernel_rfl) (by kernel_rfl) (by kernel_rfl) (by kernel_rfl) h hm
theorem walk {W : World} {ad : Nat -> Option ca} (bd : dU (C fun b => W.heap[b]?) id (fW fun b => W.heap[b]?) -> dU (C fun b => W.heap[b]?) id ad) (dT : laidMetH Tryz.prog Rows.modelsValidRow.laid W) {i : Nat} {f : iw} (hi : ad i = some (.code f)) {vs : List V} {xs : List Value} (cO : c6 W (ue W).I vs xs)
  (he : cK ad (.fn i [] []) vs [] = some (.bool true, [], 0)) :
  Calls Tryz.prog i ⟨xs⟩ W fun e W' => e = .returned (.bool true) /\ ∃ G' H', bb (C fun b => W.heap[b]?) id G' H' W' /\ W'.os = W.os /\ W'.output = W.output := by
 obtain ⟨n, hn⟩ := tx.1 he
 have hT : dU (C fun b => W.heap[b]?) id ad := bd <| anY fun G H w aa => aoG aa (ape dT)
 have h := St (C := C fun b => W.heap[b]?) (fid := id) (Checked.mixed Tryz.checked) sD hT hi hn (aoz W) (c6.od cO)
 refine BF h fun e W' hp => ?_
 obtain ⟨x, rfl, G', h1, U, av⟩ := hp
 rw [av.j1]
 have dw := U 0 (aK _)
 exact ⟨rfl, G', _, h1, dw.os, dw.output⟩
end Go.Proofs.YtaenhebjdjpdgaaGreatDoor.valid
namespace Go.Proofs.YtaenhebjdjpdgaaGreatDoor
open Go Go.Abs Go.Abs.b1 Go.Proofs
set_option maxRecDepth 100000
def zk : DataW Unit -> List Value
 | .agg xs => xs.map fun x => match x with
   | .lit (.int k n) => .int k n
   | _ => .tuple #[]
 | _ => []
def apf : DataW Unit -> List Value
 | .agg xs => xs.flatMap zk
 | _ => []
def YR : DataW Unit -> Value
 | .iface _ (.ptr (.agg [.lit (.string s)])) => .string ⟨⟨s⟩⟩
 | _ => .tuple #[]
def rowsOf : DataW Unit -> List Value
 | .ptr (.agg (.slice xs _ :: _)) => xs.flatMap zk
 | _ => []
def more : Array Obj := #[.cells #[YR Rows.laid_strconv_ErrRange] 491 (0, 0), .cells #[YR Rows.laid_strconv_ErrSyntax] 491 (0, 0),
 .cells #[.slice (some ⟨19, 0, none⟩) 7 7, .slice none 0 0, .int .i64 2] 480 (0, 0), .cells (rowsOf Rows.laid_unicode_White_Space).toArray 483 (0, 0)]
def vd (cs : Array Value) : Obj -> Obj
 | .cells _ t f => .cells cs t f
 | o => o
noncomputable def JC (os : Os) : World :=
 { World.holding Tryz.prog os ⟨more, #[], []⟩ with heap := (((((((((World.holding Tryz.prog os ⟨more, #[], []⟩).heap.modify 0 (vd (zk Rows.laid_strings_asciiSpace).toArray)).modify 1 (vd (zk Rows.laid_internal_strconv_uint64pow10).toArray)).modify 3 (vd #[.pointer (some ⟨18, 0, none⟩)])).modify 5
  (vd #[.iface 489 (.pointer (some ⟨16, 0, none⟩))])).modify 4 (vd #[.iface 489 (.pointer (some ⟨17, 0, none⟩))])).modify 6 (vd (zk Rows.laid_math_bits_deBruijn32tab).toArray)).modify 7 (vd (zk Rows.laid_math_bits_deBruijn64tab).toArray)).modify 8
  (vd (zk Rows.laid_unicode_utf8_first).toArray)).modify 9 (vd (apf Rows.laid_unicode_utf8_acceptRanges).toArray) }
theorem own : ownKnob Tryz.prog.godebug = none := by kernel_rfl
end Go.Proofs.YtaenhebjdjpdgaaGreatDoor
