/- Texts of this claim, joined and written short by a program. -/
import Derived.Test.YtaenhebjdjpdgaaGreatDoorP34
import Derived.Test.YtaenhebjdjpdgaaGreatDoorP01
import Derived.Test.YtaenhebjdjpdgaaGreatDoorCards
import Derived.WalkKit
import Derived.ProofKit
import Derived.OpenShut
import Derived.ChangeSlices
import Derived.ChangeStays
import Derived.SizedLaws
import Derived.Deep.DeepHandedRow
import Derived.Deep.DeepLaidRun
import Derived.Lib.LaidTab
import Derived.Test.YtaenhebjdjpdgaaGreatDoorP00
set_option linter.unusedVariables false
set_option linter.unusedSimpArgs false
set_option linter.unusedSectionVars false
namespace Go.Abs.b1
open Go Go.Abs Go.Proofs
set_option maxRecDepth 100000
def ue (W : World) : bT := ⟨fun _ => none, fun b => b < W.heap.size⟩
theorem aoz (W : World) : bb (C fun b => W.heap[b]?) id (ue W) [] W where
 obj l h e := by cases e
 inj l fp h h' e := by cases e
 blk l h e := by cases e
 cX b hb := ⟨hb, fun l h e => by cases e⟩
 jY l h e := by cases e
 e6 b o h := ⟨by
  rcases gg b W.heap.size with q | q
  · exact q
  · simp [C, E8 q] at h, h⟩
theorem E7 {W w' : World} {G' : bT} {H' : Heap} (aa : bb (C fun b => W.heap[b]?) id G' H' w') {b : Nat} (hb : b < W.heap.size) : w'.heap[b]? = W.heap[b]? := by
 have h : W.heap[b]? = some W.heap[b] := by simp [hb]
 rw [(aa.e6 b _ h).2, h]
theorem aoA {W w' : World} {G' : bT} {H' : Heap} (aa : bb (C fun b => W.heap[b]?) id G' H' w') {b off : Nat} (hb : b < W.heap.size) : w'.cell? ⟨b, off, none⟩ = W.cell? ⟨b, off, none⟩ := by
 unfold World.cell?; rw [E7 aa hb]
theorem aoB {W w' : World} {G' : bT} {H' : Heap} (aa : bb (C fun b => W.heap[b]?) id G' H' w') (ho : w'.os = W.os) (hp : w'.output = W.output) (may : MemPlace -> Prop) : W.keptBut w' may := by
 refine ⟨ho, hp, fun i hi => ?_⟩
 rw [E7 aa hi]
 cases h : W.heap[i]? with
 | none => simp
 | some o => cases o <;> simp
theorem YL {P : Program} {w : World} {n : String} {d : DataW Unit} : ∀ {l : List (String × DataW Unit)} {ps : List MemPlace}, DataW.LaidVars P w l ps -> (n, d) ∈ l ->
  ∃ g t cs fuel p, P.globalNamed n = some g /\ (P.globals[g]?).map (·.type) = some t /\ w.var? P n = some cs /\ DataW.trod (fun _ => ()) P w 0 (fun _ => true) false fuel t cs.toList = some (d, p)
 | [], _, _, h => by cases h
 | (m, e) :: r, ps, h, hm => by
   obtain ⟨g, t, cs, fuel, p, q, h1, h2, av, bc, h5, -⟩ := h
   rcases dS.1 hm with hm | hm
   · cases hm; exact ⟨g, t, cs, fuel, p, h1, h2, av, bc⟩
   · exact YL h5 hm
theorem aoC {P : Program} {W : World} {name : String} {k : IntKind} {dc : List Int} {l : List (String × DataW Unit)} {g : Nat} {t e : TypeId} {n : Nat}
  (bt : P.globalNamed name = some g) (aoD : (P.globals[g]?).map (·.type) = some t) (ht : P.underlying t = some (.array n e)) (he : P.underlying e = some (.int k)) (CV : P.cellsOf e = 1) (Je : P.cellsOf t = n)
  (h : laidMet P l W) (hm : (name, Lib.tabData k dc) ∈ l) : Lib.TabIs P W name k dc := by
 obtain ⟨ps, af, -⟩ := h
 obtain ⟨asE, t', cs, fuel, p, aoE, eu, aoF, hd⟩ := YL af hm
 obtain rfl := Bz (bt.symm.trans aoE)
 obtain rfl := Bz (aoD.symm.trans eu)
 unfold Lib.TabIs
 rw [aoF, <- Lib.cells_of_tab ht he CV Je hd]
theorem aoG {W w' : World} {G' : bT} {H' : Heap} (aa : bb (C fun b => W.heap[b]?) id G' H' w') {name : String} {k : IntKind} {dc : List Int} (h : Lib.TabIs Tryz.prog W name k dc) : Lib.TabIs Tryz.prog w' name k dc := by
 unfold Lib.TabIs World.var? at h ⊢
 cases bt : Tryz.prog.globalNamed name with
 | none => rw [bt] at h; cases h
 | some g =>
   rw [bt] at h
   simp only [aW] at h ⊢
   have hb : g < W.heap.size := by
    rcases gg g W.heap.size with q | q
    · exact q
    · rw [E8 q] at h; cases h
   rw [E7 aa hb]; exact h
section
variable {W : World} {H : Type} {enc : TypeId × Value -> H}
theorem YM {w' : World} {T : TypeId -> Prop} (K : Kids Tryz.prog T) (dP : ∀ {t e : TypeId}, T t -> Tryz.prog.underlying t = some (.slice e) -> 0 < Tryz.prog.cellsOf e) {YN : Nat -> Bool} :
  ∀ {ts : List TypeId} {vs : List Value} {ds : List (DataW H)} {p : List MemPlace}, (∀ t ∈ ts, T t) -> DataW.TrodAll enc Tryz.prog W 0 (fun _ => true) true ts vs ds p -> (∀ q ∈ p, W.sameAt w' q) -> (∀ q ∈ p, YN q.block = true) ->
    DataW.TrodAll enc Tryz.prog w' 0 YN true ts vs ds p
 | [], vs, ds, p, _, h, _, _ => by
   obtain ⟨rfl, rfl, rfl⟩ := ChangeShapes.trodAll_nil h
   rfl
 | t :: ts, vs, ds, p, hT, h, hs, hp => by
   obtain ⟨v, vs', d, ds', a, b, rfl, rfl, rfl, ⟨fuel, h1⟩, h2⟩ := ChangeShapes.trodAll_cons h
   refine ⟨a, b, ⟨fuel, DataW.trod_stays K dP (fun h => by cases h) (hT t (by simp)) h1 (fun q bD => hs q (by simp [bD])) (fun q bD => hp q (by simp [bD]))⟩, YM K dP (fun u hu => hT u (by simp [hu])) h2 (fun q bD => hs q (by simp [bD])) (fun q bD => hp q (by simp [bD])), rfl⟩
end
set_option maxRecDepth 100000 in
theorem laidOut : laidOutB Tryz.prog = true := by kernel_rfl
theorem aoH : mapsRowed Tryz.prog = true := by kernel_rfl
theorem kids : Kids Tryz.prog (· < Tryz.prog.types.size) := kids_rows laidOut aoH
theorem aoI : ((List.range Tryz.prog.types.size).all fun t => match Tryz.prog.underlying t with | some (.slice e) => decide (0 < Tryz.prog.cellsOf e) | _ => true) = true := by kernel_rfl
theorem aoJ {t e : TypeId} (h : t < Tryz.prog.types.size) (hu : Tryz.prog.underlying t = some (.slice e)) : 0 < Tryz.prog.cellsOf e := by
 have := fo.1 aoI t (JS.2 h)
 rw [hu] at this
 simpa using this
theorem aoK {W w' : World} {G' : bT} {H' : Heap} (aa : bb (C fun b => W.heap[b]?) id G' H' w') {q : MemPlace} (hb : q.block < W.heap.size) : W.sameAt w' q := by
 cases q with
 | cell b off => exact aoA aa hb
 | map b => exact E7 aa hb
theorem aoL {W w' : World} {G' : bT} {H' : Heap} (aa : bb (C fun b => W.heap[b]?) id G' H' w') {a : Addr} (hb : a.block < W.heap.size) : w'.frozen? a = W.frozen? a := by
 unfold World.frozen?; rw [E7 aa hb]
end Go.Abs.b1
