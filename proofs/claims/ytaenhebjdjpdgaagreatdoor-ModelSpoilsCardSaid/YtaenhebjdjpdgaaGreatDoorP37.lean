/- Texts of this claim, joined and written short by a program. -/
import Derived.Test.YtaenhebjdjpdgaaGreatDoorP35
import Derived.Test.YtaenhebjdjpdgaaGreatDoorP36
import Derived.Deep.DeepWitnessRowRef
import Derived.Test.YtaenhebjdjpdgaaGreatDoorP33
import Derived.Test.YtaenhebjdjpdgaaGreatDoorP22
import Derived.Test.YtaenhebjdjpdgaaGreatDoorP00
set_option linter.unusedVariables false
set_option linter.unusedSimpArgs false
set_option linter.unusedSectionVars false
namespace Go.Abs.b1
open Go Go.Abs Go.Proofs
set_option maxRecDepth 100000
theorem r0 {H A : Type} {P : Program} {t e : TypeId} {es : Nat} {f : A -> V} {d : DataW H} {l : List V} (ht : P.underlying t = some (.slice e)) (fL : P.cellsOf e = es) (he : ∀ (d : DataW H) l, e4 P e d l -> ∃ a : A, rZ l = f a) (h : e4 P t d l) : ∃ s : ak A, l = [bP es f s] := by
 rcases aoy ht h with ⟨-, rfl⟩ | ⟨elems, spare, ls, -, rfl, hl, hr⟩
 · exact ⟨.nil, rfl⟩
 · have : ∀ (ls : List (List V)), (∀ l ∈ ls, ∃ a : A, rZ l = f a) -> ∃ xs : List A, ls.map rZ = xs.map f := by
    intro ls
    induction ls with
    | nil => exact fun _ => ⟨[], rfl⟩
    | cons l ls ih =>
      intro h
      obtain ⟨a, ao⟩ := h l (by simp)
      obtain ⟨xs, hx⟩ := ih fun l hl => h l (by simp [hl])
      exact ⟨a :: xs, by rw [eD, eD, ao, hx]⟩
   obtain ⟨xs, hx⟩ := this ls fun l Jz => by
    obtain ⟨i, hi⟩ := List.getElem?_of_mem Jz
    have qu : i < ls.length := (fy.1 hi).1
    exact he _ l (hr i _ l (oV (by omega)) hi)
   exact ⟨.mk xs, by rw [hx, fL]; rfl⟩
theorem wV {α : Type} {l : List α} (h : l.length = 2) : ∃ a0 al, l = [a0, al] := by
 match l, h with
 | [a0, al], _ => exact ⟨a0, al, rfl⟩
theorem tb {α : Type} {l : List α} (h : l.length = 3) : ∃ a0 al a2, l = [a0, al, a2] := by
 match l, h with
 | [a0, al, a2], _ => exact ⟨a0, al, a2, rfl⟩
theorem JA {α : Type} {l : List α} (h : l.length = 5) : ∃ a0 al a2 a3 a4, l = [a0, al, a2, a3, a4] := by
 match l, h with
 | [a0, al, a2, a3, a4], _ => exact ⟨a0, al, a2, a3, a4, rfl⟩
theorem YO {α : Type} {l : List α} (h : l.length = 7) : ∃ a0 al a2 a3 a4 a5 Bp, l = [a0, al, a2, a3, a4, a5, Bp] := by
 match l, h with
 | [a0, al, a2, a3, a4, a5, Bp], _ => exact ⟨a0, al, a2, a3, a4, a5, Bp, rfl⟩
section
variable {W : World} {H : Type} {enc : TypeId × Value -> H}
theorem JB {d : DataW H} {l : List V} (h : e4 Tryz.prog 22 d l) : ∃ s : ak Int, l = [bP 1 aI s] :=
 r0 Tryz.underlying22 (by kernel_rfl) (fun d l h => by obtain ⟨n, -, rfl, -⟩ := kE Tryz.underlying3 h; exact ⟨n, rfl⟩) h
theorem aoM {d : DataW H} {l : List V} (h : e4 Tryz.prog 58 d l) : ∃ x : Range, l = aG (pA x) := by
 obtain ⟨parts, ls, -, rfl, hp, hl, hr⟩ := qM Tryz.underlying58 h
 obtain ⟨p0, p1, rfl⟩ := wV hp
 obtain ⟨oz, b2, rfl⟩ := wV hl
 obtain ⟨b8, -, rfl, -⟩ := kE Tryz.underlying3 (hr 0 _ _ _ rfl rfl rfl)
 obtain ⟨bu, -, rfl, -⟩ := kE Tryz.underlying3 (hr 1 _ _ _ rfl rfl rfl)
 exact ⟨⟨b8, bu⟩, rfl⟩
theorem aoN {d : DataW H} {l : List V} (h : e4 Tryz.prog 60 d l) : ∃ x : Table, l = aG (kU x) := by
 obtain ⟨parts, ls, -, rfl, hp, hl, hr⟩ := qM Tryz.underlying60 h
 obtain ⟨p0, p1, p2, p3, lu, rfl⟩ := JA hp
 obtain ⟨oz, b2, jZ, IU, Jt, rfl⟩ := JA hl
 obtain ⟨b8, -, rfl⟩ := Pw Tryz.underlying9 (hr 0 _ _ _ rfl rfl rfl)
 obtain ⟨bu, -, rfl, -⟩ := kE Tryz.underlying3 (hr 1 _ _ _ rfl rfl rfl)
 obtain ⟨cq, rfl⟩ := JB (hr 2 _ _ _ rfl rfl rfl)
 obtain ⟨dd, rfl⟩ := aoM (hr 3 _ _ _ rfl rfl rfl)
 obtain ⟨kc, -, rfl, -⟩ := kE Tryz.underlying3 (hr 4 _ _ _ rfl rfl rfl)
 exact ⟨⟨b8, bu, cq, dd, kc⟩, rfl⟩
theorem aoO {d : DataW H} {l : List V} (h : e4 Tryz.prog 23 d l) : ∃ s : ak Table, l = [bP 6 kU s] :=
 r0 Tryz.underlying23 (by kernel_rfl) (fun d l h => by obtain ⟨x, rfl⟩ := aoN h; exact ⟨x, rfl⟩) h
theorem aoP {d : DataW H} {l : List V} (h : e4 Tryz.prog 24 d l) : ∃ s : ak bQ, l = [bP 1 V.str s] :=
 r0 Tryz.underlying24 (by kernel_rfl) (fun d l h => by obtain ⟨n, -, rfl⟩ := Pw Tryz.underlying9 h; exact ⟨n, rfl⟩) h
theorem aoQ {d : DataW H} {l : List V} (h : e4 Tryz.prog 143 d l) : ∃ x : Term, l = aG (sL x) := by
 obtain ⟨parts, ls, -, rfl, hp, hl, hr⟩ := qM Tryz.underlying143 h
 obtain ⟨p0, p1, rfl⟩ := wV hp
 obtain ⟨oz, b2, rfl⟩ := wV hl
 obtain ⟨b8, -, rfl, -⟩ := kE Tryz.underlying3 (hr 0 _ _ _ rfl rfl rfl)
 obtain ⟨bu, -, rfl, -⟩ := kE Tryz.underlying3 (hr 1 _ _ _ rfl rfl rfl)
 exact ⟨⟨b8, bu⟩, rfl⟩
theorem aoR {d : DataW H} {l : List V} (h : e4 Tryz.prog 36 d l) : ∃ s : ak Term, l = [bP 2 sL s] :=
 r0 Tryz.underlying36 (by kernel_rfl) (fun d l h => by obtain ⟨x, rfl⟩ := aoQ h; exact ⟨x, rfl⟩) h
theorem YP {d : DataW H} {l : List V} (h : e4 Tryz.prog 38 d l) : ∃ x : Row, l = aG (sM x) := by
 obtain ⟨parts, ls, -, rfl, hp, hl, hr⟩ := qM Tryz.underlying38 h
 obtain ⟨p0, p1, rfl⟩ := wV hp
 obtain ⟨oz, b2, rfl⟩ := wV hl
 obtain ⟨b8, rfl⟩ := aoR (hr 0 _ _ _ rfl rfl rfl)
 obtain ⟨bu, -, rfl, -⟩ := kE Tryz.underlying3 (hr 1 _ _ _ rfl rfl rfl)
 exact ⟨⟨b8, bu⟩, rfl⟩
theorem aoS {d : DataW H} {l : List V} (h : e4 Tryz.prog 40 d l) : ∃ x : Constraint, l = aG (rD x) := by
 obtain ⟨parts, ls, -, rfl, hp, hl, hr⟩ := qM Tryz.underlying40 h
 obtain ⟨p0, p1, p2, p3, lu, rfl⟩ := JA hp
 obtain ⟨oz, b2, jZ, IU, Jt, rfl⟩ := JA hl
 obtain ⟨b8, -, rfl, -⟩ := kE Tryz.underlying3 (hr 0 _ _ _ rfl rfl rfl)
 obtain ⟨bu, -, rfl, -⟩ := kE Tryz.underlying3 (hr 1 _ _ _ rfl rfl rfl)
 obtain ⟨cq, rfl⟩ := YP (hr 2 _ _ _ rfl rfl rfl)
 obtain ⟨dd, -, rfl, -⟩ := kE Tryz.underlying3 (hr 3 _ _ _ rfl rfl rfl)
 obtain ⟨kc, -, rfl, -⟩ := kE Tryz.underlying3 (hr 4 _ _ _ rfl rfl rfl)
 exact ⟨⟨b8, bu, cq, dd, kc⟩, rfl⟩
theorem aoT {d : DataW H} {l : List V} (h : e4 Tryz.prog 25 d l) : ∃ s : ak Constraint, l = [bP 6 rD s] :=
 r0 Tryz.underlying25 (by kernel_rfl) (fun d l h => by obtain ⟨x, rfl⟩ := aoS h; exact ⟨x, rfl⟩) h
theorem aoU {d : DataW H} {l : List V} (h : e4 Tryz.prog 83 d l) : ∃ x : cG, l = aG (rE x) := by
 obtain ⟨parts, ls, -, rfl, hp, hl, hr⟩ := qM Tryz.underlying83 h
 obtain ⟨p0, p1, p2, rfl⟩ := tb hp
 obtain ⟨oz, b2, jZ, rfl⟩ := tb hl
 obtain ⟨b8, -, rfl⟩ := Pw Tryz.underlying9 (hr 0 _ _ _ rfl rfl rfl)
 obtain ⟨bu, -, rfl⟩ := aox Tryz.underlying4 (hr 1 _ _ _ rfl rfl rfl)
 obtain ⟨cq, rfl⟩ := JB (hr 2 _ _ _ rfl rfl rfl)
 exact ⟨⟨b8, bu, cq⟩, rfl⟩
theorem aoV {d : DataW H} {l : List V} (h : e4 Tryz.prog 26 d l) : ∃ s : ak cG, l = [bP 3 rE s] :=
 r0 Tryz.underlying26 (by kernel_rfl) (fun d l h => by obtain ⟨x, rfl⟩ := aoU h; exact ⟨x, rfl⟩) h
theorem aoW {d : DataW H} {l : List V} (h : e4 Tryz.prog 52 d l) : ∃ x : Change, l = aG (sN x) := by
 obtain ⟨parts, ls, -, rfl, hp, hl, hr⟩ := qM Tryz.underlying52 h
 obtain ⟨p0, p1, rfl⟩ := wV hp
 obtain ⟨oz, b2, rfl⟩ := wV hl
 obtain ⟨b8, -, rfl, -⟩ := kE Tryz.underlying3 (hr 0 _ _ _ rfl rfl rfl)
 obtain ⟨bu, -, rfl, -⟩ := kE Tryz.underlying3 (hr 1 _ _ _ rfl rfl rfl)
 exact ⟨⟨b8, bu⟩, rfl⟩
theorem aoX {d : DataW H} {l : List V} (h : e4 Tryz.prog 44 d l) : ∃ s : ak Change, l = [bP 2 sN s] :=
 r0 Tryz.underlying44 (by kernel_rfl) (fun d l h => by obtain ⟨x, rfl⟩ := aoW h; exact ⟨x, rfl⟩) h
theorem aoY {d : DataW H} {l : List V} (h : e4 Tryz.prog 45 d l) : ∃ s : ak Row, l = [bP 2 sM s] :=
 r0 Tryz.underlying45 (by kernel_rfl) (fun d l h => by obtain ⟨x, rfl⟩ := YP h; exact ⟨x, rfl⟩) h
theorem aoZ {d : DataW H} {l : List V} (h : e4 Tryz.prog 122 d l) : ∃ x : jt, l = aG (sO x) := by
 obtain ⟨parts, ls, -, rfl, hp, hl, hr⟩ := qM Tryz.underlying122 h
 obtain ⟨p0, p1, p2, rfl⟩ := tb hp
 obtain ⟨oz, b2, jZ, rfl⟩ := tb hl
 obtain ⟨b8, -, rfl, -⟩ := kE Tryz.underlying3 (hr 0 _ _ _ rfl rfl rfl)
 obtain ⟨bu, -, rfl, -⟩ := kE Tryz.underlying3 (hr 1 _ _ _ rfl rfl rfl)
 obtain ⟨cq, -, rfl, -⟩ := kE Tryz.underlying3 (hr 2 _ _ _ rfl rfl rfl)
 exact ⟨⟨b8, bu, cq⟩, rfl⟩
theorem ao0 {d : DataW H} {l : List V} (h : e4 Tryz.prog 46 d l) : ∃ s : ak jt, l = [bP 3 sO s] :=
 r0 Tryz.underlying46 (by kernel_rfl) (fun d l h => by obtain ⟨x, rfl⟩ := aoZ h; exact ⟨x, rfl⟩) h
theorem ao1 {d : DataW H} {l : List V} (h : e4 Tryz.prog 48 d l) : ∃ x : dM, l = aG (Ar x) := by
 obtain ⟨parts, ls, -, rfl, hp, hl, hr⟩ := qM Tryz.underlying48 h
 obtain ⟨p0, p1, p2, rfl⟩ := tb hp
 obtain ⟨oz, b2, jZ, rfl⟩ := tb hl
 obtain ⟨b8, rfl⟩ := aoX (hr 0 _ _ _ rfl rfl rfl)
 obtain ⟨bu, rfl⟩ := aoY (hr 1 _ _ _ rfl rfl rfl)
 obtain ⟨cq, rfl⟩ := ao0 (hr 2 _ _ _ rfl rfl rfl)
 exact ⟨⟨b8, bu, cq⟩, rfl⟩
theorem ao2 {d : DataW H} {l : List V} (h : e4 Tryz.prog 50 d l) : ∃ x : Action, l = aG (rF x) := by
 obtain ⟨parts, ls, -, rfl, hp, hl, hr⟩ := qM Tryz.underlying50 h
 obtain ⟨p0, p1, p2, rfl⟩ := tb hp
 obtain ⟨oz, b2, jZ, rfl⟩ := tb hl
 obtain ⟨b8, -, rfl, -⟩ := kE Tryz.underlying3 (hr 0 _ _ _ rfl rfl rfl)
 obtain ⟨bu, rfl⟩ := JB (hr 1 _ _ _ rfl rfl rfl)
 obtain ⟨cq, rfl⟩ := ao1 (hr 2 _ _ _ rfl rfl rfl)
 exact ⟨⟨b8, bu, cq⟩, rfl⟩
theorem ao3 {d : DataW H} {l : List V} (h : e4 Tryz.prog 27 d l) : ∃ s : ak Action, l = [bP 5 rF s] :=
 r0 Tryz.underlying27 (by kernel_rfl) (fun d l h => by obtain ⟨x, rfl⟩ := ao2 h; exact ⟨x, rfl⟩) h
theorem ao4 {d : DataW H} {l : List V} (h : e4 Tryz.prog 55 d l) : ∃ x : fN, l = aG (iF x) := by
 obtain ⟨parts, ls, -, rfl, hp, hl, hr⟩ := qM Tryz.underlying55 h
 obtain ⟨p0, p1, p2, rfl⟩ := tb hp
 obtain ⟨oz, b2, jZ, rfl⟩ := tb hl
 obtain ⟨b8, -, rfl, -⟩ := kE Tryz.underlying3 (hr 0 _ _ _ rfl rfl rfl)
 obtain ⟨bu, -, rfl, -⟩ := kE Tryz.underlying3 (hr 1 _ _ _ rfl rfl rfl)
 obtain ⟨cq, -, rfl, -⟩ := kE Tryz.underlying3 (hr 2 _ _ _ rfl rfl rfl)
 exact ⟨⟨b8, bu, cq⟩, rfl⟩
theorem ao5 {d : DataW H} {l : List V} (h : e4 Tryz.prog 28 d l) : ∃ s : ak fN, l = [bP 3 iF s] :=
 r0 Tryz.underlying28 (by kernel_rfl) (fun d l h => by obtain ⟨x, rfl⟩ := ao4 h; exact ⟨x, rfl⟩) h
theorem ao6 {d : DataW H} {l : List V} (h : e4 Tryz.prog 30 d l) : ∃ x : Model, l = aG (uF x) := by
 obtain ⟨parts, ls, -, rfl, hp, hl, hr⟩ := qM Tryz.underlying30 h
 obtain ⟨p0, p1, p2, p3, lu, rM, Ey, rfl⟩ := YO hp
 obtain ⟨oz, b2, jZ, IU, Jt, zf, wQ, rfl⟩ := YO hl
 obtain ⟨b8, rfl⟩ := JB (hr 0 _ _ _ rfl rfl rfl)
 obtain ⟨bu, rfl⟩ := aoO (hr 1 _ _ _ rfl rfl rfl)
 obtain ⟨cq, rfl⟩ := aoP (hr 2 _ _ _ rfl rfl rfl)
 obtain ⟨dd, rfl⟩ := aoT (hr 3 _ _ _ rfl rfl rfl)
 obtain ⟨kc, rfl⟩ := aoV (hr 4 _ _ _ rfl rfl rfl)
 obtain ⟨eM, rfl⟩ := ao3 (hr 5 _ _ _ rfl rfl rfl)
 obtain ⟨nV, rfl⟩ := ao5 (hr 6 _ _ _ rfl rfl rfl)
 exact ⟨⟨b8, bu, cq, dd, kc, eM, nV⟩, rfl⟩
theorem ao7 : wU Tryz.prog 12 30 = true := by kernel_rfl
theorem ao8 : 30 < Tryz.prog.types.size := of_decide_eq_true (by kernel_rfl)
theorem ao9 {b : Nat} {v : Value} (hval : Value.okWide Tryz.prog W .any b 30 v) : ∃ cs, v = .agg cs := by
 unfold Value.okWide at hval
 rw [Tryz.underlying30] at hval
 cases v <;> first | exact ⟨_, rfl⟩ | (simp at hval)
theorem apa {b : Nat} {v : Value} (hval : Value.okWide Tryz.prog W .any b 30 v) {d : DataW H} {p : List MemPlace} {held : Bool} (hd : DataW.Trod enc Tryz.prog W 0 (fun _ => true) held 30 v d p) : ∃ m : Model, fE W (ue W).I (uF m) v := by
 obtain ⟨cs, rfl⟩ := ao9 hval
 obtain ⟨fuel, hd⟩ := hd
 obtain ⟨vs, bG, ch, -⟩ := reads laidOut 12 fuel 30 _ _ ao8 ao7 hd
 obtain ⟨m, rfl⟩ := ao6 bG
 exact ⟨m, .agg _ cs.toList ch⟩
end
end Go.Abs.b1
namespace Go.Abs.b1
open Go Go.Abs Go.Proofs
set_option maxRecDepth 100000
theorem aue {W : World} {H : Type} {enc : TypeId × Value -> H} {b : Nat} {v : Value} (hval : Value.okWide Tryz.prog W .any b 5 v) {d : DataW H} {p : List MemPlace} {held : Bool} (hd : DataW.Trod enc Tryz.prog W 0 (fun _ => true) held 5 v d p) : ∃ n : Int, (0 <= n /\ n <= 255) /\ fE W (ue W).I (.int .u8 n) v := by
 unfold Value.okWide at hval
 rw [Tryz.underlying5] at hval
 cases v <;> simp [Cell.okWide, Cell.ok, Tryz.underlying5] at hval
 obtain ⟨rfl, h⟩ := hval
 refine ⟨_, ?_, .int _ _⟩
 have h1 := h.1
 have h2 := h.2
 simp [IntKind.min, IntKind.max, IntKind.signed, IntKind.bits] at h1 h2
 omega
end Go.Abs.b1
namespace Go.Proofs.YtaenhebjdjpdgaaGreatDoor.valid
open Go Go.Abs Go.Abs.b1 Go.Proofs Go.ChangeShapes Go.WideShapes Go.ChangeAt Go.RowKit
set_option maxRecDepth 100000
theorem apb {H : Type} {enc : TypeId × Value -> H} {f : Func} {s : ChangeSpec} {apart fresh handsOn again : Bool} {W W' : World} {args : Array Value} {ds gs : List (DataW H)} {before : List MemPlace} {G' : bT} {H' : Heap}
  (hW : DataW.Whole enc Tryz.prog f.params.toList s.vars apart W args.toList ds gs before) (af : s.vars = []) (hT : ∀ t ∈ f.params.toList, t < Tryz.prog.types.size) (hr : f.resultTypes = #[4])
  (j4 : (s.fn H (ds ++ gs)).results = [.lit (.bool true)]) (apc : gs = [] -> (s.fn H (ds ++ gs)).args = ds) (A5 : (s.fn H (ds ++ gs)).vars = [])
  (aa : bb (C fun b => W.heap[b]?) id G' H' W') (ho : W'.os = W.os) (hp : W'.output = W.output) : s.post enc Tryz.prog f apart fresh handsOn again W args (.bool true) W' := by
 have aH := hW.lt
 have hold : ∀ p ∈ before, (fun b => decide (b < W.heap.size)) p.block = true := fun p hp => by simpa using aH p hp
 have apd := hW
 obtain ⟨pa, q, hA, hV, tC, aP, hn⟩ := hW
 rw [af] at hV
 obtain ⟨xh, rfl⟩ := trodVars_none hV
 rw [vh] at tC
 subst tC
 have vG : ∀ sp : Nat -> Bool, (∀ p ∈ before, sp p.block = true) -> DataW.TrodAll enc Tryz.prog W' 0 sp true f.params.toList args.toList (s.fn H (ds ++ gs)).args before := fun sp lX => by
  rw [apc xh]
  exact YM kids (fun h hu => aoJ h hu) hT hA (fun q bD => aoK aa (aH q bD)) lX
 have YQ : ∀ sp : Nat -> Bool, DataW.TrodVars enc Tryz.prog W' sp s.vars (s.fn H (ds ++ gs)).vars [] := fun sp => by rw [af, A5]; rfl
 have sy : ∀ (b : Nat) (sp : Nat -> Bool) (hd : Bool), DataW.TrodAll enc Tryz.prog W' b sp hd f.resultTypes.toList ((Value.bool true).resultList f.resultTypes.size) (s.fn H (ds ++ gs)).results [] := fun b sp hd => by
  rw [hr, j4]
  exact trodAll_cons_mk (shut_bool Tryz.underlying4 _) trodAll_mk0
 refine ⟨ds, gs, before, [], before, [], apd, sy _ _ _, vG _ hold, YQ _, aoB aa ho hp _, fun _ => ?_⟩
 refine ⟨ok_one hr rfl (okWide_bool_mk Tryz.underlying4 _), _, _, ([] ++ before) ++ [], ⟨[] ++ before, [], trodAll_append (vG _ (fun _ _ => rfl)) (sy _ _ _), YQ _, rfl, ?_, ?_⟩, ?_⟩
 · intro b off oo
   have hm : MemPlace.cell b off ∈ before := by simpa using oo
   rw [aoL aa (aH _ hm)]
   exact aP b off hm
 · intro ao
   simpa using hn ao
 · intro p oo _
   simpa using oo
theorem ape {W : World} (h : laidMetH Tryz.prog Rows.modelsValidRow.laid W) : Lib.TabIs Tryz.prog W "strings.asciiSpace" .u8 Lib.asciiSpaceTab := by
 have ae : (Rows.modelsValidRow.laid.filter fun x => x.2.handleName?.isSome) = [] := by kernel_rfl
 unfold laidMetH at h
 rw [ae] at h
 have hm : ("strings.asciiSpace", Lib.tabData .u8 Lib.asciiSpaceTab) ∈ Rows.modelsValidRow.laid := by
  have e : Rows.modelsValidRow.laid[7]? = some ("strings.asciiSpace", Lib.tabData .u8 Lib.asciiSpaceTab) := by kernel_rfl
  exact fm e
 exact aoC (g := 0) (t := 380) (e := 5) (n := 256) (by kernel_rfl) (by kernel_rfl) (by kernel_rfl) (by kernel_rfl) (by kernel_rfl) (by kernel_rfl) h hm
theorem walk {W : World} {ad : Nat -> Option ca} (bd : dU (C fun b => W.heap[b]?) id (fW fun b => W.heap[b]?) -> dU (C fun b => W.heap[b]?) id ad) (dT : laidMetH Tryz.prog Rows.modelsValidRow.laid W) {i : Nat} {f : iw} (hi : ad i = some (.code f)) {vs : List V} {xs : List Value} (cO : c6 W (ue W).I vs xs)
  (he : cK ad (.fn i [] []) vs [] = some (.bool true, [], 0)) :
  Calls Tryz.prog i ⟨xs⟩ W fun e W' => e = .returned (.bool true) /\ ∃ G' H', bb (C fun b => W.heap[b]?) id G' H' W' /\ W'.os = W.os /\ W'.output = W.output := by
 obtain ⟨n, hn⟩ := tx.1 he
 have hT : dU (C fun b => W.heap[b]?) id ad := bd <| anY fun G H w aa => aoG aa (ape dT)
 have h := St (C := C fun b => W.heap[b]?) (fid := id) (Checked.mixed Tryz.checked) sD hT hi hn (aoz W) (c6.od cO)
 refine BF h fun e W' hp => ?_
 obtain ⟨x, rfl, G', h1, h2, av⟩ := hp
 rw [av.j1]
 have dw := h2 0 (aK _)
 exact ⟨rfl, G', _, h1, dw.os, dw.output⟩
end Go.Proofs.YtaenhebjdjpdgaaGreatDoor.valid
namespace Go.Proofs.YtaenhebjdjpdgaaGreatDoor
open Go Go.Abs Go.Abs.b1 Go.Proofs
set_option maxRecDepth 100000
def zk : DataW Unit -> List Value
 | .agg xs => xs.map fun x => match x with
   | .lit (.int k n) => .int k n
   | _ => .tuple #[]
 | _ => []
def apf : DataW Unit -> List Value
 | .agg xs => xs.flatMap zk
 | _ => []
def YR : DataW Unit -> Value
 | .iface _ (.ptr (.agg [.lit (.string s)])) => .string ⟨⟨s⟩⟩
 | _ => .tuple #[]
def rowsOf : DataW Unit -> List Value
 | .ptr (.agg (.slice xs _ :: _)) => xs.flatMap zk
 | _ => []
def more : Array Obj := #[.cells #[YR Rows.laid_strconv_ErrRange] 491 (0, 0), .cells #[YR Rows.laid_strconv_ErrSyntax] 491 (0, 0),
 .cells #[.slice (some ⟨19, 0, none⟩) 7 7, .slice none 0 0, .int .i64 2] 480 (0, 0), .cells (rowsOf Rows.laid_unicode_White_Space).toArray 483 (0, 0)]
def vd (cs : Array Value) : Obj -> Obj
 | .cells _ t f => .cells cs t f
 | o => o
noncomputable def JC (os : Os) : World :=
 { World.holding Tryz.prog os ⟨more, #[], []⟩ with heap := (((((((((World.holding Tryz.prog os ⟨more, #[], []⟩).heap.modify 0 (vd (zk Rows.laid_strings_asciiSpace).toArray)).modify 1 (vd (zk Rows.laid_internal_strconv_uint64pow10).toArray)).modify 3 (vd #[.pointer (some ⟨18, 0, none⟩)])).modify 5
  (vd #[.iface 489 (.pointer (some ⟨16, 0, none⟩))])).modify 4 (vd #[.iface 489 (.pointer (some ⟨17, 0, none⟩))])).modify 6 (vd (zk Rows.laid_math_bits_deBruijn32tab).toArray)).modify 7 (vd (zk Rows.laid_math_bits_deBruijn64tab).toArray)).modify 8
  (vd (zk Rows.laid_unicode_utf8_first).toArray)).modify 9 (vd (apf Rows.laid_unicode_utf8_acceptRanges).toArray) }
theorem own : ownKnob Tryz.prog.godebug = none := by kernel_rfl
end Go.Proofs.YtaenhebjdjpdgaaGreatDoor
namespace Go.Abs.b1
open Go Go.Abs
noncomputable section
theorem auf (x : Int) : aQ (x + 1) ≠ x := by
 intro h
 unfold aQ IntKind.wrap at h
 simp only [IntKind.signed, IntKind.bits] at h
 omega
theorem atk {α : Type} {s0 : Nat} {x : ak α} (hb : s0 + 1 <= 1000) (h : x.l.length <= 100000) : ∃ z, asR s0 x = some z /\ z.l = x.l := by
 cases x with
 | nil => exact ⟨_, rfl, rfl⟩
 | emp => exact ⟨_, rfl, rfl⟩
 | mk l =>
   obtain ⟨z, e, el⟩ := Bi (x := (ak.emp : ak α)) (y := ak.mk l) hb (by show 0 + l.length <= _; have : l.length <= 100000 := h; omega)
   exact ⟨z, e, by rw [el]; rfl⟩
theorem atn {c : Int} (hc : 0 <= c /\ c <= 255) {n : Nat} (hn : n <= 100000) : ∃ k : Nat, as3 c (n : Int) = some (k : Int) /\ (0 < n -> k < n) := by
 refine ⟨(c % max (n : Int) 1).toNat, ?_, fun h => ?_⟩
 · unfold as3
   rw [gf (by omega) (by omega), XK hc.1 (by omega)]
   show some _ = some _
   congr 1
   have := Int.emod_nonneg c (b := max (n : Int) 1) (by omega)
   omega
 · have h1 := Int.emod_nonneg c (b := max (n : Int) 1) (by omega)
   have h2 := Int.emod_lt_of_pos c (b := max (n : Int) 1) (by omega)
   omega
theorem atl {X : Model} (b : O5 X) (h : zd X = false) : ((asW X [111, 40, 41]).bind fun Nc => ((((Dt X).bind fun C8 => (bif C8 then some false else (bif (Nc.2 == 1) then ((asM X).bind fun ye => (bif ye.isNil then (bif (0 == 0) then ((asV X).bind fun atJ => (bif atJ.isNil then ((asX X 0).bind fun MX => (bif (MX == []) then ((asY X 0).bind fun yq => some (yq == [])) else some false)) else none)) else some false) else none)) else some false))) : Option (Bool)).bind fun atK => some atK)) = some true := by
 have af : Dt X = some false := by rw [amu b, h]
 have hr : ∀ c, atp X c = some ak.nil := fun c => by unfold atp; rw [af]; rfl
 have h1 : asW X [111, 40, 41] = some (0, 1) := by unfold asW; rw [af]; rfl
 have h2 : asM X = some ak.nil := by unfold asM; rw [hr]; rfl
 have av : asV X = some ak.nil := by unfold asV; rw [hr]; rfl
 have bc : asX X 0 = some [] := by unfold asX; rw [af]; rfl
 have h5 : asY X 0 = some [] := by unfold asY; rw [af]; rfl
 simp only [h1, af, h2, av, bc, h5, aW]
 rfl
theorem aug : ∀ l : List Int, lM l l = false
 | [] => rfl
 | x :: r => by simp [lM, aug r]
theorem auh : ∀ {a b c : List Int}, lM a b = true -> lM b c = true -> lM a c = true
 | _, _, [], _, h => by rw [XT] at h; cases h
 | _, [], _ :: _, h, _ => by rw [XT] at h; cases h
 | [], _ :: _, _ :: _, _, _ => rfl
 | x :: r, y :: s, z :: t, h1, h2 => by
   simp only [lM] at h1 h2 ⊢
   by_cases ah : x = y
   · subst ah
     by_cases e2 : x = z
     · subst e2
       simp only [BEq.rfl, cond_true] at h1 h2 ⊢
       exact auh h1 h2
     · rw [show (x == z) = false from by simpa using e2] at h2 ⊢; exact h2
   · rw [show (x == y) = false from by simpa using ah] at h1
     simp only [cond_false, decide_eq_true_eq] at h1
     by_cases e2 : y = z
     · subst e2
       rw [show (x == y) = false from by simpa using ah]
       simpa using h1
     · rw [show (y == z) = false from by simpa using e2] at h2
       simp only [cond_false, decide_eq_true_eq] at h2
       rw [show (x == z) = false from by simp; omega]
       simp; omega
def atw (a b : Action) : Prop := a.cG < b.cG \/ a.cG = b.cG /\ lM a.dz.l b.dz.l = true
theorem avH (a : Action) : ¬ atw a a := fun h => by
 rcases h with h | ⟨-, h⟩
 · omega
 · rw [aug] at h; cases h
theorem avI {a b c : Action} (h1 : atw a b) (h2 : atw b c) : atw a c := by
 rcases h1 with h1 | ⟨h1, q1⟩ <;> rcases h2 with h2 | ⟨h2, aS⟩
 · exact .inl (by omega)
 · exact .inl (by omega)
 · exact .inl (by omega)
 · exact .inr ⟨by omega, auh q1 aS⟩
theorem aui {s7 : List Action} {k : Nat} {a b : Action} (h : za s7 (k + 1) a = true) (hb : s7[k]? = some b) : atw b a := by
 simp only [za, hb, cd, pZ, decide_eq_false_iff_not] at h
 obtain ⟨h1, h2⟩ := h
 by_cases e : b.cG = a.cG
 · rw [show (b.cG == a.cG) = true from by simpa using e] at h2
   exact .inr ⟨e, h2⟩
 · exact .inl (by omega)
theorem auj {s7 : List Action} (h : ∀ k a, s7[k]? = some a -> za s7 k a = true) : ∀ (d j : Nat) (a b : Action), s7[j]? = some a -> s7[j + d + 1]? = some b -> atw a b
 | 0, j, a, b, ao, hb => aui (h _ _ hb) ao
 | d + 1, j, a, b, ao, hb => by
   have aH := (fy.1 hb).1
   have hc := oV (l := s7) (i := j + d + 1) (by omega)
   exact avI (auj h d j a _ ao hc) (aui (h _ _ hb) hc)
theorem atZ {s : List Int} {ts : List Table} {n : Int} {ops : List cG} {s7 : List Action} (h : zb s ts n ops s7 = true) : ∀ k a, s7[k]? = some a -> u5 s ts n ops s7 k a = true := by
 unfold zb at h
 rw [cd] at h
 exact EI.1 h.2
theorem at0 {s : List Int} {ts : List Table} {n : Int} {ops : List cG} {s7 : List Action} {k : Nat} {a : Action} (h : u5 s ts n ops s7 k a = true) :
  ∃ o ∈ ops, a.dz.l.length = o.aO.l.length /\ za s7 k a = true /\ y8 s ts n a.dM = true := by
 unfold u5 at h
 rw [cd] at h
 obtain ⟨-, h⟩ := h
 split at h
 · rename_i o ho
   simp only [cd, beq_iff_eq] at h
   exact ⟨o, fm ho, h.1, h.2.2.1, h.2.2.2⟩
 · cases h
theorem avJ (l : List bQ) : u1 (l ++ [[87, 114, 111, 110, 103]]) = false := by
 cases h : u1 (l ++ [[87, 114, 111, 110, 103]]) with
 | false => rfl
 | true =>
   have := EI.1 h l.length [87, 114, 111, 110, 103] (by simp)
   unfold u0 at this
   rw [cd] at this
   have e : jU [87, 114, 111, 110, 103] = false := by rfl
   rw [e] at this
   cases this.1
theorem atE {s : List Int} {ts : List Table} {rs : List Range} {F : Int} {cs : List Constraint} (h : y2 s ts rs F cs = true) : 2 * rs.length <= cs.length /\ ∀ k c, cs[k]? = some c -> u2 s ts rs F k c = true := by
 unfold y2 at h
 simp only [cd, decide_eq_true_eq] at h
 exact ⟨h.2.1, EI.1 h.2.2⟩
theorem avK {s : List Int} {ts : List Table} {rs : List Range} {F : Int} {cs : List Constraint} {k : Nat} {c : Constraint} (ai : k < cs.length) (ae : c.mq = F) : y2 s ts rs F (cs.set k c) = false := by
 cases h : y2 s ts rs F (cs.set k c) with
 | false => rfl
 | true =>
   have := (atE h).2 k c (by simp [ai])
   unfold u2 Bk at this
   rw [ae] at this
   simp at this
theorem avL {s : List Int} {ts : List Table} {rs : List Range} {F : Int} {cs : List Constraint} {k : Nat} {c c' : Constraint} (h0 : y2 s ts rs F cs = true) (ai : cs[k]? = some c) (hr : k < 2 * rs.length) (hb : c'.Row.l1 = aQ (c.Row.l1 + 1)) : y2 s ts rs F (cs.set k c') = false := by
 cases h : y2 s ts rs F (cs.set k c') with
 | false => rfl
 | true =>
   have h1 := (atE h).2 k c' (by simp [eI ai])
   have h2 := (atE h0).2 k c ai
   have aH : k / 2 < rs.length := by omega
   unfold u2 at h1 h2
   simp only [aH, decide_true, cond_true, cd] at h1 h2
   have g1 := h1.2.2.2
   have g2 := h2.2.2.2
   unfold Ji at g1 g2
   rw [oV aH] at g1 g2
   simp only at g1 g2
   have key : ∀ {x f y : Int}, qI c'.Row x f y = true -> qI c.Row x f y = true -> False := fun {x f y} ah e2 => by
    unfold qI at ah e2
    simp only [cd, beq_iff_eq] at ah e2
    exact auf c.Row.l1 (by rw [<- hb, ah.1, e2.1])
   cases hp : k % 2 == 0 <;> rw [hp] at g1 g2 <;> exact (key g1 g2).elim
theorem avM {s : List Int} {ts : List Table} {n : Int} {ops : List cG} {s7 : List Action} {k : Nat} {a : Action} (ai : s7[k]? = some a) : zb s ts n ops (s7 ++ [a]) = false := by
 cases h : zb s ts n ops (s7 ++ [a]) with
 | false => rfl
 | true =>
   have ho : ∀ j x, (s7 ++ [a])[j]? = some x -> za (s7 ++ [a]) j x = true := fun j x hx => by
    obtain ⟨o, -, -, q, -⟩ := at0 (atZ h j x hx); exact q
   have aH := eI ai
   exact (avH a (auj ho (s7.length - k - 1) k a a (by rw [hq aH]; exact ai) (by rw [show k + (s7.length - k - 1) + 1 = s7.length by omega]; simp))).elim
theorem avN {s : List Int} {ts : List Table} {n : Int} {ops : List cG} {s7 : List Action} {k : Nat} {a : Action} (ai : k < s7.length) (hd : a.dM.Delta.l = [Change.mk n 1]) : zb s ts n ops (s7.set k a) = false := by
 cases h : zb s ts n ops (s7.set k a) with
 | false => rfl
 | true =>
   obtain ⟨o, -, -, -, q⟩ := at0 (atZ h k a (by simp [ai]))
   unfold y8 at q
   rw [hd, cd] at q
   have := EI.1 q.1 0 (Change.mk n 1) rfl
   unfold s4 at this
   simp at this
theorem avO {s : List Int} {ts : List Table} {n : Int} {ops : List cG} {s7 : List Action} {k : Nat} {a : Action} (ai : k < s7.length) (hd : a.dz.l.length = 4) (ho : ∀ o ∈ ops, o.aO.l.length <= 3) : zb s ts n ops (s7.set k a) = false := by
 cases h : zb s ts n ops (s7.set k a) with
 | false => rfl
 | true =>
   obtain ⟨o, h1, h2, -, -⟩ := at0 (atZ h k a (by simp [ai]))
   have := ho o h1
   omega
theorem avP (ts : List Table) (l : List fN) (k x : Int) : ya ts (l ++ [fN.mk k x k]) = false := by
 unfold ya
 have : oJ ts (fN.mk k x k) = false := by unfold oJ; simp
 simp [this]
def atx (s : List Int) (a : Int × Int) (t : Table) : Int × Int := bif kB t then (a.1 + wid s t.aX.l, a.2) else (a.1, a.2 + wid s t.aX.l)
theorem auk {s : List Int} {ts : List Table} : ∀ (l : List Table) (k : Nat) (a p : Int × Int), jy (uZ s ts) some k a l = some p -> ∀ j t, l[j]? = some t -> t.c2 = bif kB t then ((l.take j).foldl (atx s) a).1 else ((l.take j).foldl (atx s) a).2
 | [], _, _, _, _, j, t, h => by simp at h
 | x :: r, k, a, p, h, j, t, ht => by
   simp only [jy] at h
   have key : uZ s ts k a x = .inr none \/ (uZ s ts k a x = .inl (atx s a x) /\ x.c2 = bif kB x then a.1 else a.2) := by
    unfold uZ atx
    cases lK s x && !(l8 ts k x.Name) with
    | false => exact .inl rfl
    | true =>
      cases kB x with
      | true =>
        cases hc : x.c2 == a.1 with
        | false => left; simp [hc]
        | true => right; simp at hc; simp [hc]
      | false =>
        cases hc : x.c2 == a.2 with
        | false => left; simp [hc]
        | true => right; simp at hc; simp [hc]
   rcases key with e | ⟨e, e2⟩
   · rw [e] at h; cases h
   · rw [e] at h
     cases j with
     | zero =>
       simp at ht
       subst ht
       exact e2
     | succ j =>
       rw [List.take_succ_cons, vi]
       exact auk r (k + 1) _ p h j t (by simpa using ht)
theorem aul {s : List Int} {ts : List Table} (h : ji s ts = true) {j : Nat} {t : Table} (ht : ts[j]? = some t) : t.c2 = bif kB t then ((ts.take j).foldl (atx s) (0, 0)).1 else ((ts.take j).foldl (atx s) (0, 0)).2 := by
 unfold ji EL at h
 cases hr : jy (uZ s ts) some 0 (0, 0) ts with
 | none => rw [hr] at h; simp at h
 | some p => exact auk ts 0 (0, 0) p hr j t ht
theorem avQ {s : List Int} {ts : List Table} {k : Nat} {t t' : Table} (h0 : ji s ts = true) (ai : ts[k]? = some t) (hs : t'.Kind = t.Kind) (ae : t'.c2 = aQ (t.c2 + 1)) : ji s (ts.set k t') = false := by
 cases h : ji s (ts.set k t') with
 | false => rfl
 | true =>
   have h1 := aul h (j := k) (t := t') (by simp [eI ai])
   have h2 := aul h0 ai
   rw [List.take_set_of_le (aK k), show kB t' = kB t from by unfold kB; rw [hs], <- h2, ae] at h1
   exact (auf _ h1).elim
end
end Go.Abs.b1
namespace Go.Abs.b1
open Go Go.Abs
noncomputable section
theorem aum {m : Model} (h : zd m = true) : ji m.aO.l m.Tables.l = true /\ u1 m.dR.l = true /\ y2 m.aO.l m.Tables.l (hk m.aO.l m.Tables.l true) m.dR.len m.c8.l = true /\ wK m.aO.l.length m.Operations.l = true /\
  zb m.aO.l m.Tables.l (hk m.aO.l m.Tables.l true).length m.Operations.l m.Actions.l = true /\ ya m.Tables.l m.bn.l = true := by
 unfold zd at h
 simp only [cd] at h
 exact ⟨h.1, h.2.2.1, h.2.2.2.1, h.2.2.2.2.1, h.2.2.2.2.2.1, h.2.2.2.2.2.2⟩
theorem avR {m : Model} (b : O5 m) (h : zd m = true) : ∃ z, asM m = some z /\ z.l = hk m.aO.l m.Tables.l true := by
 obtain ⟨x, e, el⟩ := ak4 m.aO m.Tables true (by have := b.Ya; unfold bl; omega) (by have := b.tables; unfold bl; omega) (fun t ht => by have := b.ad t ht; unfold bl; omega)
 rw [(aum h).1] at el
 refine ⟨x, ?_, el⟩
 unfold asM atp
 rw [amu b, h]
 simp only [aW, cond_true, e]
theorem ata {α : Type} (l : List α) : (ak.mk l).l = l := rfl
theorem asO {α : Type} (s : ak α) (k : Nat) (x : α) : (nR s (k : Int) x).l = s.l.set k x := by show s.l.set _ x = _; rw [JM]
theorem mem_set {α : Type} {l : List α} {k : Nat} {a x : α} (h : x ∈ l.set k a) : x ∈ l \/ x = a := by
 obtain ⟨i, hi⟩ := nu.1 h
 rw [List.getElem?_set] at hi
 split at hi
 · split at hi
   · cases hi; exact .inr rfl
   · cases hi
 · exact .inl (fm hi)
theorem avS (m : Model) (a c : Int) (hc : 0 <= c /\ c <= 255) : atB m a c = some true := by
 unfold atB MD
 rw [amq m]
 simp only [aW, cond_true]
 cases hb : Bo m with
 | false => rfl
 | true =>
 have b := Yd hb
 rw [amu b]
 cases af : zd m with
 | false => rfl
 | true =>
 obtain ⟨v1, v2, v3, v4, v5, v6⟩ := aum af
 obtain ⟨z, aP, qW⟩ := avR b af
 rw [aP]
 simp only [aW, cond_true, fQ, cond_false]
 generalize (aQ a).tmod 8 = t
 have hT := b.tables
 have dX := b.Yb
 have bx := b.cons
 have hA := b.s7
 have eZ := b.amr
 cases h0 : t == 0 with
 | true =>
   simp only [cond_true]
   obtain ⟨s, e, el⟩ := atk (s0 := 16) (x := m.dR) (by omega) (by omega)
   obtain ⟨y, e2, ato⟩ := Bi (s0 := 16) (x := s) (y := ak.mk [[87, 114, 111, 110, 103]]) (by omega) (by rw [el, ata]; simp only [atF]; omega)
   rw [e]; simp only [aW]
   rw [e2]; simp only [aW]
   refine atl (X := Model.mk m.aO m.Tables y m.c8 m.Operations m.Actions m.bn) ⟨b.Ya, b.tables, ?_, b.cons, b.ops, b.s7, b.amr, b.ad, fun x hx => ?_, b.Yc, b.op, b.act⟩ ?_
   · show y.l.length <= 21
     have h3 := hb
     unfold Bo at h3
     simp only [cd, decide_eq_true_eq] at h3
     have := h3.1.2.2.1
     rw [ato, el, ata]; simp only [kg, atF]; omega
   · have hx : x ∈ y.l := hx
     rw [ato, el] at hx
     rcases jV.1 hx with hx | hx
     · exact b.ams x hx
     · have : x = [87, 114, 111, 110, 103] := by rw [ata] at hx; simpa using hx
       subst this; decide
   · show zd _ = false
     unfold zd
     simp only [ato, el]
     rw [show (ak.mk [[87, 114, 111, 110, 103]] : ak bQ).l = [[87, 114, 111, 110, 103]] from rfl, avJ]
     simp only [BC, atm]
 | false =>
 simp only [cond_false]
 cases h1 : (t == 1) && decide (m.c8.len > 0) with
 | true =>
   simp only [cond_true]
   have hn : 0 < m.c8.l.length := by
    have := of_decide_eq_true (aty.1 h1).2; rw [dF] at this; omega
   obtain ⟨s, e, el⟩ := atk (s0 := 64) (x := m.c8) (by omega) (by omega)
   obtain ⟨k, ai, aH⟩ := atn hc (n := m.c8.l.length) (by omega)
   have aH := aH hn
   have hx := oV aH
   rw [e]; simp only [aW, dF]
   rw [ai]; simp only [aW, c5, el, hx]
   generalize m.c8.l[k] = q at hx
   refine atl (X := Model.mk m.aO m.Tables m.dR _ m.Operations m.Actions m.bn) ⟨b.Ya, b.tables, b.Yb, ?_, b.ops, b.s7, b.amr, b.ad, b.ams, fun x ed => ?_, b.op, b.act⟩ ?_
   · show (nR s _ _).l.length <= _
     rw [asO, zo, el]; omega
   · have ed : x ∈ (nR s _ _).l := ed
     rw [asO, el] at ed
     rcases mem_set ed with h | rfl
     · exact b.Yc x h
     · exact b.Yc q (fm hx)
   · unfold zd
     simp only [asO, el]
     rw [avK aH (by rw [dF])]
     simp only [BC, atm]
 | false =>
 simp only [cond_false]
 cases h2 : t == 2 with
 | true =>
   simp only [cond_true]
   cases hn : decide (z.len > 0) with
   | false =>
     have ht : t = 2 := by simpa using h2
     subst ht
     rfl
   | true =>
   have hlen := (atE v3).1
   have avT : 0 < z.l.length := by simpa [dF] using hn
   rw [qW] at avT
   simp only [aW, cond_true]
   obtain ⟨s, e, el⟩ := atk (s0 := 64) (x := m.c8) (by omega) (by omega)
   obtain ⟨k, ai, aH⟩ := atn hc (n := 2 * (hk m.aO.l m.Tables.l true).length) (by omega)
   have aH := aH (by omega)
   have avU : k < m.c8.l.length := by omega
   have hx := oV avU
   rw [e]; simp only [aW]
   rw [show aQ (2 * z.len) = ((2 * (hk m.aO.l m.Tables.l true).length : Nat) : Int) from by rw [dF, qW, gf (by omega) (by omega)]; omega]
   rw [ai]; simp only [aW, c5, el, hx]
   generalize m.c8.l[k] = q at hx
   refine atl (X := Model.mk m.aO m.Tables m.dR _ m.Operations m.Actions m.bn) ⟨b.Ya, b.tables, b.Yb, ?_, b.ops, b.s7, b.amr, b.ad, b.ams, fun x ed => ?_, b.op, b.act⟩ ?_
   · show (nR s _ _).l.length <= _
     rw [asO, zo, el]; omega
   · have ed : x ∈ (nR s _ _).l := ed
     rw [asO, el] at ed
     rcases mem_set ed with h | rfl
     · exact b.Yc x h
     · exact b.Yc q (fm hx)
   · unfold zd
     simp only [asO, el]
     rw [avL v3 hx aH rfl]
     simp only [BC, atm]
 | false =>
 simp only [cond_false, aW]
 cases av : (t == 3) && decide (m.Actions.len > 0) with
 | true =>
   simp only [cond_true]
   have hn : 0 < m.Actions.l.length := by
    have := of_decide_eq_true (aty.1 av).2; rw [dF] at this; omega
   obtain ⟨s, e, el⟩ := atk (s0 := 104) (x := m.Actions) (by omega) (by omega)
   obtain ⟨k, ai, aH⟩ := atn hc (n := m.Actions.l.length) (by omega)
   have aH := aH hn
   have hx := oV aH
   rw [e]; simp only [aW, dF]
   rw [ai]; simp only [aW, c5, hx]
   generalize m.Actions.l[k] = q at hx
   obtain ⟨y, e2, ato⟩ := Bi (s0 := 104) (x := s) (y := ak.mk [q]) (by omega) (by rw [el, ata]; simp only [atF]; omega)
   rw [e2]; simp only [aW]
   have hy : y.l = m.Actions.l ++ [q] := by rw [ato, el]; rfl
   refine atl (X := Model.mk m.aO m.Tables m.dR m.c8 m.Operations y m.bn) ⟨b.Ya, b.tables, b.Yb, b.cons, b.ops, ?_, b.amr, b.ad, b.ams, b.Yc, b.op, fun x ed => ?_⟩ ?_
   · show y.l.length <= 31
     have h3 := hb
     unfold Bo at h3
     simp only [cd, decide_eq_true_eq] at h3
     have := h3.1.2.2.2.2.2.1
     rw [hy]; simp; omega
   · have ed : x ∈ y.l := ed
     rw [hy] at ed
     rcases jV.1 ed with h | h
     · exact b.act x h
     · have : x = q := by simpa using h
       subst this; exact b.act x (fm hx)
   · unfold zd
     simp only [hy]
     rw [avM hx]
     simp only [BC, atm]
 | false =>
 simp only [cond_false]
 cases bc : (t == 4) && decide (m.Actions.len > 0) with
 | true =>
   simp only [cond_true]
   have hn : 0 < m.Actions.l.length := by
    have := of_decide_eq_true (aty.1 bc).2; rw [dF] at this; omega
   obtain ⟨s, e, el⟩ := atk (s0 := 104) (x := m.Actions) (by omega) (by omega)
   obtain ⟨k, ai, aH⟩ := atn hc (n := m.Actions.l.length) (by omega)
   have aH := aH hn
   have hx := oV aH
   rw [e]; simp only [aW, dF]
   rw [ai]; simp only [aW, c5, el, hx]
   generalize m.Actions.l[k] = q at hx
   have bD := b.act q (fm hx)
   refine atl (X := Model.mk m.aO m.Tables m.dR m.c8 m.Operations _ m.bn) ⟨b.Ya, b.tables, b.Yb, b.cons, b.ops, ?_, b.amr, b.ad, b.ams, b.Yc, b.op, fun x ed => ?_⟩ ?_
   · show (nR s _ _).l.length <= _
     rw [asO, zo, el]; omega
   · have ed : x ∈ (nR s _ _).l := ed
     rw [asO, el] at ed
     rcases mem_set ed with h | rfl
     · exact b.act x h
     · exact ⟨bD.1, by unfold bl; rw [ata]; simp, bD.2.u, bD.2.h, bD.2.r⟩
   · unfold zd
     simp only [asO, el]
     rw [avN aH (by rw [ata, qW])]
     simp only [BC, atm]
 | false =>
 simp only [cond_false]
 cases h5 : (t == 5) && decide (m.Actions.len > 0) with
 | true =>
   simp only [cond_true]
   have hn : 0 < m.Actions.l.length := by
    have := of_decide_eq_true (aty.1 h5).2; rw [dF] at this; omega
   obtain ⟨s, e, el⟩ := atk (s0 := 104) (x := m.Actions) (by omega) (by omega)
   obtain ⟨k, ai, aH⟩ := atn hc (n := m.Actions.l.length) (by omega)
   have aH := aH hn
   have hx := oV aH
   rw [e]; simp only [aW, dF]
   rw [ai]; simp only [aW, c5, el, hx]
   generalize m.Actions.l[k] = q at hx
   have bD := b.act q (fm hx)
   refine atl (X := Model.mk m.aO m.Tables m.dR m.c8 m.Operations _ m.bn) ⟨b.Ya, b.tables, b.Yb, b.cons, b.ops, ?_, b.amr, b.ad, b.ams, b.Yc, b.op, fun x ed => ?_⟩ ?_
   · show (nR s _ _).l.length <= _
     rw [asO, zo, el]; omega
   · have ed : x ∈ (nR s _ _).l := ed
     rw [asO, el] at ed
     rcases mem_set ed with h | rfl
     · exact b.act x h
     · exact ⟨by rw [ata]; simp, bD.2⟩
   · unfold zd
     simp only [asO, el]
     rw [avO aH (by rw [ata]; rfl) (fun o ho => by
      unfold wK at v4
      simp only [cd, fo] at v4
      have := v4.1 o ho
      unfold lL at this
      simp only [cd, decide_eq_true_eq] at this
      exact this.1)]
     simp only [BC, atm]
 | false =>
 simp only [cond_false]
 cases gu : t == 6 with
 | true =>
   simp only [cond_true]
   obtain ⟨s, e, el⟩ := atk (s0 := 24) (x := m.bn) (by omega) (by omega)
   obtain ⟨k, ai, -⟩ := atn hc (n := m.Tables.l.length) (by omega)
   rw [e]; simp only [aW, dF]
   rw [ai]; simp only [aW]
   obtain ⟨y, e2, ato⟩ := Bi (s0 := 24) (x := s) (y := ak.mk [fN.mk (k : Int) 0 (k : Int)]) (by omega) (by rw [el, ata]; simp only [atF]; omega)
   rw [e2]; simp only [aW]
   have hy : y.l = m.bn.l ++ [fN.mk (k : Int) 0 (k : Int)] := by rw [ato, el]; rfl
   refine atl (X := Model.mk m.aO m.Tables m.dR m.c8 m.Operations m.Actions y) ⟨b.Ya, b.tables, b.Yb, b.cons, b.ops, b.s7, ?_, b.ad, b.ams, b.Yc, b.op, b.act⟩ ?_
   · show y.l.length <= 13
     have h3 := hb
     unfold Bo at h3
     simp only [cd, decide_eq_true_eq] at h3
     have := h3.1.2.2.2.2.2.2.1
     rw [hy]; simp; omega
   · unfold zd
     simp only [hy, avP, atm]
 | false =>
 simp only [cond_false]
 cases lv : (t == 7) && decide (m.Tables.len > 0) with
 | true =>
   simp only [cond_true]
   have hn : 0 < m.Tables.l.length := by
    have := of_decide_eq_true (aty.1 lv).2; rw [dF] at this; omega
   obtain ⟨s, e, el⟩ := atk (s0 := 72) (x := m.Tables) (by omega) (by omega)
   obtain ⟨k, ai, aH⟩ := atn hc (n := m.Tables.l.length) (by omega)
   have aH := aH hn
   have hx := oV aH
   rw [e]; simp only [aW, dF]
   rw [ai]; simp only [aW, c5, el, hx]
   generalize m.Tables.l[k] = q at hx
   have bD := b.ad q (fm hx)
   refine atl (X := Model.mk m.aO _ m.dR m.c8 m.Operations m.Actions m.bn) ⟨b.Ya, ?_, b.Yb, b.cons, b.ops, b.s7, b.amr, fun x ed => ?_, b.ams, b.Yc, b.op, b.act⟩ ?_
   · show (nR s _ _).l.length <= _
     rw [asO, zo, el]; omega
   · have ed : x ∈ (nR s _ _).l := ed
     rw [asO, el] at ed
     rcases mem_set ed with h | rfl
     · exact b.ad x h
     · exact bD
   · unfold zd
     simp only [asO, el]
     rw [avQ (t' := Table.mk q.Name q.Kind q.aX q.Range (aQ (q.c2 + 1))) v1 hx rfl rfl]
     simp only [BC, atm]
 | false => rfl
end
end Go.Abs.b1
