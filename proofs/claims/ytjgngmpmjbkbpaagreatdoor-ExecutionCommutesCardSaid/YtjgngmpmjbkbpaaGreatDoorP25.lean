/- Texts of this claim, joined and written short by a program. -/
import Derived.Test.YtjgngmpmjbkbpaaGreatDoorP24
import Derived.Test.YtjgngmpmjbkbpaaGreatDoorP00
set_option linter.unusedVariables false
set_option linter.unusedSimpArgs false
set_option linter.unusedSectionVars false
namespace Go.Abs
open Go
section
variable {ad : Nat -> Option ca} {b : Nat} {az σ : cb} {H : Heap} {wr : List Bool} {rest : List b3} {call : c3} {ag : aj -> V}
def ga {K W : Type} (gv : K -> V) (gb : W -> V) (m : List (K × W)) : List (V × V) := m.map fun p => (gv p.1, gb p.2)
theorem CW (a c : Int) : hX 0 (aI a) (aI c) = some (a == c) := by simp [hX]
theorem afC (a c : bQ) : hX 1 (.str a) (.str c) = some (a == c) := rfl
theorem CX {K W : Type} [BEq K] {gv : K -> V} {gb : W -> V} {kind : Nat} (heq : ∀ a c, hX kind (gv a) (gv c) = some (a == c)) (k : K) : ∀ m : List (K × W), hv kind (gv k) (ga gv gb m) = some ((ie m k).map gb)
 | [] => rfl
 | p :: r => by
   have ih := CX (gb := gb) heq k r
   simp only [ga, ie] at ih ⊢
   simp only [eD, hv, heq, JR]
   cases k == p.1 <;> simp [ih]
theorem U7 {K W : Type} [BEq K] {gv : K -> V} {gb : W -> V} {kind : Nat} (heq : ∀ a c, hX kind (gv a) (gv c) = some (a == c)) (k : K) (w : W) : ∀ m : List (K × W), kH kind (gv k) (gb w) (ga gv gb m) = ga gv gb (lC m k w)
 | [] => rfl
 | p :: r => by
   have ih := U7 (gb := gb) heq k w r
   simp only [ga] at ih ⊢
   simp only [eD, kH, heq, lC]
   cases k == p.1 <;> simp [ih]
theorem U8 {K W : Type} [BEq K] {gv : K -> V} {gb : W -> V} {kind a : Nat} {m : List (K × W)} {k : K} {z : V} {x i : aj} (heq : ∀ a c, hX kind (gv a) (gv c) = some (a == c)) (z0 : W) (aP : z = gb z0) (bt : H[a]? = some (.map (ga gv gb m))) (hx : ag x = .map a) (hi : ag i = gv k) :
  b9 call ag H H.length (.lookup kind z x i false) = some (gb ((ie m k).getD z0), H, H.length) := by
 rw [Gz]
 simp only [step, hx, bt, hi, CX heq]
 cases ie m k <;> simp [aP]
theorem afD {K W : Type} [BEq K] {gv : K -> V} {gb : W -> V} {kind a : Nat} {m : List (K × W)} {k : K} {z : V} {x i : aj} (heq : ∀ a c, hX kind (gv a) (gv c) = some (a == c)) (z0 : W) (aP : z = gb z0) (bt : H[a]? = some (.map (ga gv gb m))) (hx : ag x = .map a) (hi : ag i = gv k) :
  b9 call ag H H.length (.lookup kind z x i true) = some (.ba [gb ((ie m k).getD z0), .bool (ie m k).isSome], H, H.length) := by
 rw [Gz]
 simp only [step, hx, bt, hi, CX heq]
 cases ie m k <;> simp [aP]
theorem U9 {K W : Type} {gv : K -> V} {gb : W -> V} {a : Nat} {m : List (K × W)} {x : aj} (bt : H[a]? = some (.map (ga gv gb m))) (hx : ag x = .map a) : b9 call ag H H.length (.len 2 x) = some (aI (m.length : Int), H, H.length) := by
 show step ag H H.length (.len 2 x) = _
 simp [step, hx, bt, ga]
theorem Va {K W : Type} [BEq K] {gv : K -> V} {gb : W -> V} {kind a : Nat} {m : List (K × W)} {k : K} {w : W} {d : Option (Nat × Bool)} {g : Option (aj × Bool)} {x i y : aj} {Q : cb -> Heap -> List Bool -> Prop} {ms : cW} (hw : hE az σ g = some true)
  (heq : ∀ a c, hX kind (gv a) (gv c) = some (a == c)) (aD : Own H ms) (j : Nat) (ai : ms[j]? = some [(a, .map (ga gv gb m))]) (hb : b <= a) (hx : bX az σ x = .map a) (hi : bX az σ i = gv k) (hy : bX az σ y = gb w) (hp : bO (gb w) = true)
  (dq : ∀ H', Own H' (ms.set j [(a, .map (ga gv gb (lC m k w)))]) -> Op ad b rest (gL az d .undef) (gM σ d .undef) H' (true :: wr) Q) : Op ad b (⟨d, .o2 kind x i y, g⟩ :: rest) az σ H wr Q := by
 have bt := aD.get j ai
 have aH := x2 bt
 have hu : tr (gb w) = false := by cases af : gb w <;> simp_all [tr, bO]
 refine asN (o := ⟨d, .o2 kind x i y, g⟩) (mv := true) (H1 := H.set a (.map (ga gv gb (lC m k w)))) hw (fun du => ⟨by simpa using du, a, hb, ?_, by simp [fJ, aH]⟩) (dq _ (aD.put j ai))
 simp only [SW, step, hy]
 have ae : gl H H.length (gb w) = some (gb w, H, H.length) := by simp [gl, eg, hp]
 simp only [ae, hu, hx, bt, hi, CX heq, U7 heq]
 simp [ti (r7 aH)]
theorem j8.elems {α : Type} {es : Nat} {f : α -> V} {s : ak α} {v : V} {m : List (Nat × cE)} {ms : cW} (aD : Own H ms) (k : Nat) (ai : ms[k]? = some m) (hr : ku b es f v s m) : elems H es v = some (s.l.map f) := by
 have fT : j8 b es v (s.map f) m := hr
 generalize x7 : s.map f = lD at fT
 clear hr
 cases fT with
 | nil => cases s <;> simp_all [ak.map, ak.l, Abs.elems]
 | emp => cases s <;> simp_all [ak.map, ak.l, Abs.elems]
 | row l ds h hb =>
   have : s.l.map f = ds := by cases s <;> simp_all [ak.map, ak.l]
   simp [Abs.elems, aD.get k ai, this]
theorem afE {α : Type} {es : Nat} {f : α -> V} {s : ak α} {v : V} {m : List (Nat × cE)} {ms : cW} {x : aj} (aD : Own H ms) (k : Nat) (ai : ms[k]? = some m) (hr : ku b es f v s m) (hx : ag x = v) : b9 call ag H H.length (.len 1 x) = some (aI s.len, H, H.length) := by
 have fT : j8 b es v (s.map f) m := hr
 generalize x7 : s.map f = lD at fT
 clear hr
 show step ag H H.length (.len 1 x) = _
 cases fT with
 | nil => cases s <;> simp_all [ak.map, ak.len, ak.l, step]
 | emp => cases s <;> simp_all [ak.map, ak.len, ak.l, step]
 | row l ds h hb =>
   have : s.l.map f = ds := by cases s <;> simp_all [ak.map, ak.l]
   subst this
   simp [step, hx, aD.get k ai, ak.len]
theorem afF {α : Type} {es bytes : Nat} {f : α -> V} {z : List V} {e : α} {n : Int} {s : ak α} {bL Vb : IntKind} {d : Option (Nat × Bool)} {g : Option (aj × Bool)} {x y : aj} {Q : cb -> Heap -> List Bool -> Prop} {ms : cW} (hw : hE az σ g = some true)
  (hs : vZ bytes e n = some s) (aD : Own H ms) (aP : lO z = f e) (hx : bX az σ x = .int bL n) (hy : bX az σ y = .int Vb n)
  (dq : ∀ H' v' m' mv, ku b es f v' s m' -> Own H' (m' :: ms) -> Op ad b rest (gL az d v') (gM σ d v') H' (mv :: wr) Q) : Op ad b (⟨d, .mkSlice es z bytes x y, g⟩ :: rest) az σ H wr Q := by
 intro aE aw low h1 h2 av bc
 unfold vZ at hs
 split at hs
 · rename_i hc
   cases hs
   by_cases h0 : n = 0
   · subst h0
     refine asN (o := ⟨d, .mkSlice es z bytes x y, g⟩) (mv := false) (v := .emp) (H1 := H) hw (fun du => ⟨du, H.length, du, ?_, lZ H⟩) (dq H .emp [] false ?_ (aD.ins 0)) aE aw low h1 h2 av bc
     · rw [Me]; simp [step, hx, hy]
     · exact .emp
   · refine asN (o := ⟨d, .mkSlice es z bytes x y, g⟩) (mv := true) (v := .cQ H.length es 0 n.toNat n.toNat) (H1 := H ++ [.row es (List.replicate n.toNat (f e)) false]) hw
      (fun du => ⟨by simp; omega, H.length, du, ?_, by simp [fJ]⟩) (dq _ _ [(H.length, .row es (List.replicate n.toNat (f e)) false)] true ?_ (aD.grow _)) aE aw low h1 h2 av bc
     · rw [Me]; simp only [step, hx, hy, aP]
       rw [if_pos ⟨trivial, hc.1, hc.2⟩, if_neg h0]
     · rw [if_neg h0]
       have : j8 b es (.cQ H.length es 0 (List.replicate n.toNat (f e)).length (List.replicate n.toNat (f e)).length) (.mk (List.replicate n.toNat (f e))) [(H.length, .row es (List.replicate n.toNat (f e)) false)] := .row _ _ (by simp; omega) bc
       simpa [ku, ak.map] using this
 · cases hs
theorem j8.at {α : Type} {es : Nat} {f : α -> V} {s : ak α} {v : V} {m : List (Nat × cE)} {l N : Nat} (hr : ku b es f v s m) (af : v = .cQ l es 0 N N) : m = [(l, .row es (s.l.map f) false)] /\ N = (s.l.map f).length /\ b <= l /\ s.map f = .mk (s.l.map f) := by
 have fT : j8 b es v (s.map f) m := hr
 generalize x7 : s.map f = lD at fT
 clear hr
 cases fT with
 | nil => cases af
 | emp => cases af
 | row l ds h hb =>
   have : s.l.map f = ds := by cases s <;> simp_all [ak.map, ak.l]
   cases af
   exact ⟨by rw [this], by rw [this], hb, by rw [this]⟩
theorem afG {α : Type} {es l N off : Nat} {f : α -> V} {s : ak α} {n : Int} {e : α} {v u : V} {m : List (Nat × cE)} {ms : cW} {sh : Option Nat} {x : aj} (k : Nat) (he : aR s.l n = some e) (aD : Own H ms) (ai : ms[k]? = some m) (hr : ku b es f v s m) (af : v = .cQ l es 0 N N) (hu : hJ (aG (f e)) off sh = some u) (hx : ag x = .gw l es n.toNat off N) :
  b9 call ag H H.length (.load sh x) = some (u, H, H.length) := by
 obtain ⟨rfl, rfl, -, -⟩ := hr.at af
 rw [nb, hx]
 unfold aR at he
 split at he
 · simp [jk, aD.get k ai, he, hu]
 · cases he
theorem afH {α : Type} {es l N off cL : Nat} {f : α -> V} {s : ak α} {n : Int} {e e' : α} {v : V} {m : List (Nat × cE)} {vs : List V} {d : Option (Nat × Bool)} {g : Option (aj × Bool)} {x y : aj} {Q : cb -> Heap -> List Bool -> Prop} {ms : cW} (hw : hE az σ g = some true) (k : Nat)
  (he : aR s.l n = some e) (aD : Own H ms) (ai : ms[k]? = some m) (hr : ku b es f v s m) (af : v = .cQ l es 0 N N) (hx : bX az σ x = .gw l es n.toNat off N) (hy : aG (bX az σ y) = vs) (hn : vs.length = cL) (hp : k6 vs = true) (lr : vm (f e) off vs = some (f e'))
  (dq : ∀ H' m', ku b es f v (nR s n e') m' -> Own H' (ms.set k m') -> Op ad b rest (gL az d .undef) (gM σ d .undef) H' (true :: wr) Q) : Op ad b (⟨d, .store cL x y, g⟩ :: rest) az σ H wr Q := by
 obtain ⟨rfl, rfl, hb, ev⟩ := hr.at af
 have bt := aD.get k ai
 have aH := x2 bt
 unfold aR at he
 split at he
 · rename_i mM
   have hi : n.toNat < s.l.length := (fy.1 he).1
   have sB : (s.l.map f).set n.toNat (f e') = (nR s n e').l.map f := by simp [nR, ak.l, List.map_set]
   have bA : (nR s n e').l.map f ≠ [] := by
    have hlen : ((nR s n e').l.map f).length = s.l.length := by simp [nR, ak.l]
    intro h0
    rw [h0] at hlen
    simp at hlen
    omega
   refine asN (o := ⟨d, .store cL x y, g⟩) (mv := true) (H1 := H.set l (.row es ((nR s n e').l.map f) false)) hw (fun du => ⟨by simpa using du, l, hb, ?_, by simp [fJ, aH]⟩) (dq _ _ ?_ (aD.put k ai))
   · simp only [lB, hx, iO, bt, hy]
     rw [if_pos ⟨trivial, trivial, hn, hp⟩]
     simp [he, lr, sB, ti (r7 aH)]
   · have := j8.row (b := b) (es := es) l ((nR s n e').l.map f) bA hb
     rw [af]
     have hl : ((nR s n e').l.map f).length = (s.l.map f).length := by simp [nR, ak.l]
     rw [hl] at this
     exact this
 · cases he
theorem Vc : ∀ {vs : List V} {H : Heap} {low : Nat}, fe H low vs = kj (eg 16) H low vs
 | [], _, _ => rfl
 | v :: vs, H, low => by
   simp only [fe, kj, gl]
   cases eg 16 H low v with
   | none => rfl
   | some r => simp only [Vc]
theorem afI {d : Option (Nat × Bool)} {g : Option (aj × Bool)} {f : aj} {aY : List aj} {fv v : V} {vs vs' : List V} {Q : cb -> Heap -> List Bool -> Prop} {ms hF : cW} (hw : hE az σ g = some true) (aD : Own H ms) (aP : pz b 16 ms vs vs' hF)
  (hc : ∀ H', cK ad fv vs' H' = some (v, H', H'.length)) (lg : flat v = true) (ao : aY.map (bX az σ) = vs) (ae : bX az σ f = fv)
  (dq : Op ad b rest (gL az d v) (gM σ d v) H (false :: wr) Q) : Op ad b (⟨d, .call false f aY, g⟩ :: rest) az σ H wr Q := by
 intro aE aw low h1 h2 av bc
 obtain ⟨H1, b0, ah, gU, ec⟩ := aP H H.length aD bc
 refine ic (v := v) hw ?_ dq aE aw low h1 h2 av bc
 subst ao; subst ae
 rw [qx, Vc, ah]
 simp [hc, lg]
theorem aup {d : Option (Nat × Bool)} {g : Option (aj × Bool)} {f : aj} {aY : List aj} {fv v : V} {vs vs' : List V} {Q : cb -> Heap -> List Bool -> Prop} {ms hF : cW} (hw : hE az σ g = some true) (aD : Own H ms) (aP : pz b 16 ms vs vs' hF) (hlen : ∀ H low r, kj (eg 16) H low vs = some r -> r.2.1.length = H.length)
  (hc : ∀ H', cK ad fv vs' H' = some (v, H', H'.length)) (lg : flat v = false) (ao : aY.map (bX az σ) = vs) (ae : bX az σ f = fv)
  (dq : ∀ H' mv, Own H' hF -> Op ad b rest (gL az d v) (gM σ d v) H' (mv :: wr) Q) : Op ad b (⟨d, .call false f aY, g⟩ :: rest) az σ H wr Q := by
 intro aE aw low h1 h2 av bc
 obtain ⟨H1, b0, ah, gU, ec⟩ := aP H H.length aD bc
 have hl := hlen _ _ _ ah
 refine asN (o := ⟨d, .call false f aY, g⟩) (v := v) (H1 := H1) (mv := fJ H H1 (min b0 H1.length)) hw (fun hb => ⟨by simp only at hl; omega, min b0 H1.length, by simp only at hl; omega, ?_, rfl⟩) (dq H1 _ gU) aE aw low h1 h2 av bc
 subst ao; subst ae
 simp only []
 rw [qx, Vc, ah]
 simp [hc, lg]
end
end Go.Abs
namespace Go.Abs
open Go
@[simp] theorem arD (l : List V) : aG (.agg l) = l := rfl
@[simp] theorem arE : aG .c0 = [.c0] := rfl
@[simp] theorem arF : aG .emp = [.emp] := rfl
@[simp] theorem arG (e : Nat) (l : List V) : aG (.list e l) = [.list e l] := rfl
@[simp] theorem arH (e l : Nat) : aG (.ptr e l) = [.ptr e l] := rfl
@[simp] theorem arI (e : Nat) : aG (.map e) = [.map e] := rfl
@[simp] theorem arJ : aG .iM = [.iM] := rfl
abbrev At (σ : cb) (ts : List Nat) (vs : List V) : Prop := ts.map σ = vs
def G0 : cb -> List Nat -> List V -> cb
 | σ, t :: ts, v :: vs => G0 (up σ t v) ts vs
 | σ, _, _ => σ
theorem CY : ∀ {ts : List Nat} {vs : List V} {σ : cb}, At σ ts vs -> G0 σ ts vs = σ
 | [], [], _, _ => rfl
 | [], _ :: _, _, h => by cases h
 | _ :: _, [], _, h => by cases h
 | t :: ts, v :: vs, σ, h => by
   simp only [At, eD, zp] at h
   simp only [G0, afo h.1]
   exact CY h.2
section
variable {ad : Nat -> Option ca} {b : Nat} {az σ : cb} {H : Heap} {wr : List Bool} {rest : List b3} {call : c3} {ag : aj -> V} {d : Option (Nat × Bool)} {op : cH} {t : aj} {β w : Bool}
theorem ea {c : cm} {Q : X -> cb -> Heap -> Prop} {ts : List Nat} {vs : List V} (h : At σ ts vs) (k : ft ad b c (G0 σ ts vs) H Q) : ft ad b c σ H Q := by rw [CY h] at k; exact k
theorem nS {ops : List b3} {c : cm} {Q : X -> cb -> Heap -> Prop} (h : Op ad b ops nN σ H [] (fun a7 H' _ => ft ad b c a7 H' Q)) : ft ad b (.seq (.region ops none) c) σ H Q := oF (sI h)
variable {Q : cb -> Heap -> List Bool -> Prop}
theorem pp (v : V) (k : Op ad b rest (gL az d v) (gM σ d v) H (false :: wr) Q) (h : b9 (cK ad) (bX az σ) H H.length op = some (v, H, H.length) := by exact rfl) : Op ad b (⟨d, op, none⟩ :: rest) az σ H wr Q := ic rfl h k
theorem ph (v : V) (h : b9 (cK ad) (bX az σ) H H.length op = some (v, H, H.length)) (k : Op ad b rest (gL az d v) (gM σ d v) H (false :: wr) Q) : Op ad b (⟨d, op, none⟩ :: rest) az σ H wr Q := ic rfl h k
theorem j9 (v : V) (c : β = w) (k : Op ad b rest (gL az d v) (gM σ d v) H (false :: wr) Q) (h : b9 (cK ad) (bX az σ) H H.length op = some (v, H, H.length) := by exact rfl) (ht : bX az σ t = .bool β := by exact rfl) : Op ad b (⟨d, op, some (t, w)⟩ :: rest) az σ H wr Q := ic (ib ht c) h k
theorem oI (c : β = false) (k : Op ad b rest (gL az d (.ba [])) (gM σ d (.ba [])) H (false :: wr) Q) (ht : bX az σ t = .bool β := by exact rfl) : Op ad b (⟨d, op, some (t, true)⟩ :: rest) az σ H wr Q := Mj (GR ht c) k
theorem cc (c : β = true) (k : Op ad b rest (gL az d (.ba [])) (gM σ d (.ba [])) H (false :: wr) Q) (ht : bX az σ t = .bool β := by exact rfl) : Op ad b (⟨d, op, some (t, false)⟩ :: rest) az σ H wr Q := Mj (GS ht c) k
end
theorem CZ : ∀ {vs : List V} {n : Nat} {H : Heap} {low : Nat}, ct vs = true -> kj (eg n) H low vs = some (vs, H, low)
 | [], _, _, _, _ => rfl
 | v :: r, n, H, low, h => by
   simp only [ct, cd] at h
   have h1 : eg n H low v = some (v, H, low) := by cases n <;> simp [eg, h.1]
   simp only [kj, h1, CZ h.2]
section
variable {ad : Nat -> Option ca} {b : Nat} {σ : cb} {H : Heap}
theorem dj {S O : Type} {c : cm} {Q : X -> cb -> Heap -> Prop} (f : S -> Option (cM S O)) (I : S -> cb -> Heap -> Prop) (P : O -> X -> cb -> Heap -> Prop) {s : S} {o : O} (h : bU f s = some o) (aZ : I s σ H)
 (round : ∀ s σ H r, I s σ H -> f s = some r -> ft ad b c σ H fun x a7 H' => match r with
   | .next ar => x = .normal /\ I ar a7 H'
   | .out o => x ≠ .normal /\ P o x a7 H') (k : ∀ x a7 H', P o x a7 H' -> Q x a7 H') : ft ad b (.loop c) σ H Q := Mo (P o) (afs f I P round h aZ) k
end
end Go.Abs
namespace Go.Abs
open Go
inductive ig (call : c3) (ms : cW) : List b3 -> cb -> cb -> cb -> cb -> Prop
 | nil {az σ : cb} : ig call ms [] az σ az σ
 | step {o : b3} {rest : List b3} {az σ bF a7 : cb} {v : V} (hw : hE az σ o.guard = some true) (h : ∀ H, Own H ms -> b9 call (bX az σ) H H.length o.op = some (v, H, H.length)) (k : ig call ms rest (gL az o.dst v) (gM σ o.dst v) bF a7) : ig call ms (o :: rest) az σ bF a7
 | skip {o : b3} {rest : List b3} {az σ bF a7 : cb} (hw : hE az σ o.guard = some false) (k : ig call ms rest (gL az o.dst (.ba [])) (gM σ o.dst (.ba [])) bF a7) : ig call ms (o :: rest) az σ bF a7
section
variable {call : c3} {ms : cW} {d : Option (Nat × Bool)} {op : cH} {rest : List b3} {az σ bF a7 : cb} {t : aj} {β w : Bool}
theorem ig.pp (v : V) (k : ig call ms rest (gL az d v) (gM σ d v) bF a7) (h : ∀ H, Own H ms -> b9 call (bX az σ) H H.length op = some (v, H, H.length) := by exact fun _ _ => rfl) : ig call ms (⟨d, op, none⟩ :: rest) az σ bF a7 := .step rfl h k
theorem ig.ph (v : V) (h : ∀ H, Own H ms -> b9 call (bX az σ) H H.length op = some (v, H, H.length)) (k : ig call ms rest (gL az d v) (gM σ d v) bF a7) : ig call ms (⟨d, op, none⟩ :: rest) az σ bF a7 := .step rfl h k
theorem ig.j9 (v : V) (c : β = w) (h : ∀ H, Own H ms -> b9 call (bX az σ) H H.length op = some (v, H, H.length)) (k : ig call ms rest (gL az d v) (gM σ d v) bF a7) (ht : bX az σ t = .bool β := by exact rfl) : ig call ms (⟨d, op, some (t, w)⟩ :: rest) az σ bF a7 := .step (ib ht c) h k
theorem ig.oI (c : β = false) (k : ig call ms rest (gL az d (.ba [])) (gM σ d (.ba [])) bF a7) (ht : bX az σ t = .bool β := by exact rfl) : ig call ms (⟨d, op, some (t, true)⟩ :: rest) az σ bF a7 := .skip (GR ht c) k
theorem ig.cc (c : β = true) (k : ig call ms rest (gL az d (.ba [])) (gM σ d (.ba [])) bF a7) (ht : bX az σ t = .bool β := by exact rfl) : ig call ms (⟨d, op, some (t, false)⟩ :: rest) az σ bF a7 := .skip (GS ht c) k
end
theorem afJ (v : V) : dN v v = true := by
 have key : (∀ v, dN v v = true) /\ (∀ vs, mc vs vs = true) := by
  refine ⟨fun v => ?_, fun vs => ?_⟩
  · exact V.rec (motive_1 := fun v => dN v v = true) (motive_2 := fun vs => mc vs vs = true)
     (by simp [dN]) (by simp [dN]) (by simp [dN]) rfl rfl (by intro e ds h; simp [dN, h]) (by intro vs h; simpa [dN] using h) (by intro vs h; simpa [dN] using h) rfl (by simp [dN]) (by simp [dN])
     (by intro vs f h; simp [dN, h]) (by simp [dN]) rfl (by simp [dN]) rfl (by intro i a b h1 h2; simp [dN, h1, h2]) (by simp [dN]) rfl (by intro t v h; simp [dN, h]) rfl rfl (by intro a r h1 h2; simp [mc, h1, h2]) v
  · exact V.rec_1 (motive_1 := fun v => dN v v = true) (motive_2 := fun vs => mc vs vs = true)
     (by simp [dN]) (by simp [dN]) (by simp [dN]) rfl rfl (by intro e ds h; simp [dN, h]) (by intro vs h; simpa [dN] using h) (by intro vs h; simpa [dN] using h) rfl (by simp [dN]) (by simp [dN])
     (by intro vs f h; simp [dN, h]) (by simp [dN]) rfl (by simp [dN]) rfl (by intro i a b h1 h2; simp [dN, h1, h2]) (by simp [dN]) rfl (by intro t v h; simp [dN, h]) rfl rfl (by intro a r h1 h2; simp [mc, h1, h2]) vs
 exact key.1 v
theorem G1 {call : c3} : ∀ {ops : List b3} {st aU : au} {wr e1 : List Bool}, c9 call ops st wr = some (aU, e1) -> ∃ cB, gD call ops st = some cB
 | [], st, _, _, _, _ => ⟨[st], rfl⟩
 | o :: r, st, aU, wr, e1, h => by
   simp only [c9] at h
   simp only [gD]
   split at h
   · split at h
     · obtain ⟨cB, e⟩ := G1 h
       exact ⟨_, by rw [e]; rfl⟩
     · cases h
   · obtain ⟨cB, e⟩ := G1 h
     exact ⟨_, by rw [e]; rfl⟩
   · cases h
theorem ig.run {call : c3} {ms : cW} : ∀ {A : List b3} {az σ bF a7 : cb}, ig call ms A az σ bF a7 -> ∀ {aE aw : Env} {H : Heap} {low b : Nat} {wr : List Bool} (B : List b3), Fits aE az -> Fits aw σ -> Own H ms -> b <= low -> b <= H.length ->
  ∃ l0 dI low', Fits l0 bF /\ Fits dI a7 /\ b <= low' /\ c9 call (A ++ B) ⟨aE, aw, H, low, none⟩ wr = c9 call B ⟨l0, dI, H, low', none⟩ (List.replicate A.length false ++ wr) /\
    ∀ cB, gD call (A ++ B) ⟨aE, aw, H, low, none⟩ = some cB -> ∃ qy rB, cB = qy ++ rB /\ qy.length = A.length /\ gD call B ⟨l0, dI, H, low', none⟩ = some rB /\
      ∀ H', Own H' ms -> ∀ p ∈ A.zip qy, kk call (p.1, p.2, H') = true
 | [], az, σ, _, _, .nil, aE, aw, H, low, b, wr, B, h1, h2, _, hb, _ => ⟨aE, aw, low, h1, h2, hb, rfl, fun cB h => ⟨[], cB, rfl, rfl, h, fun _ _ p hp => by cases hp⟩⟩
 | o :: A, az, σ, bF, a7, .step (v := v) hw h k, aE, aw, H, low, b, wr, B, h1, h2, aD, hb, h3 => by
   obtain ⟨pw, mo, ah, e2, b5⟩ := Aj h1 h2 H (min low H.length) o.dst v
   obtain ⟨l0, dI, low', f1, f2, f0, f3, f4⟩ := k.run (b := b) (low := min low H.length) (wr := false :: wr) B e2 b5 aD (by omega) h3
   have rC := hw; rw [<- GQ h1 h2] at rC
   have hs := h H aD
   rw [<- vY h1 h2] at hs
   refine ⟨l0, dI, low', f1, f2, f0, ?_, fun cB ht => ?_⟩
   · simp only [oX, c9, rC, hs, lZ]
     rw [ah, f3]
     simp only [iv, List.replicate_succ']
     rw [mb]; rfl
   · simp only [oX, gD, rC, hs] at ht
     rw [ah] at ht
     obtain ⟨q7, eu, rfl⟩ := cD.1 ht
     obtain ⟨qy, rB, rfl, g1, g2, g3⟩ := f4 q7 eu
     refine ⟨_ :: qy, rB, rfl, by simp [g1], g2, fun H' sK p hp => ?_⟩
     rw [JL] at hp
     rcases dS.1 hp with rfl | hp
     · have Gw := h H' sK
       rw [<- vY h1 h2] at Gw
       simp only [kk, rC, hs, Gw, lZ, o0, vk, afJ]
     · exact g3 H' sK p hp
 | o :: A, az, σ, bF, a7, .skip hw k, aE, aw, H, low, b, wr, B, h1, h2, aD, hb, h3 => by
   obtain ⟨pw, mo, ah, e2, b5⟩ := Aj h1 h2 H low o.dst (.ba [])
   obtain ⟨l0, dI, low', f1, f2, f0, f3, f4⟩ := k.run (b := b) (wr := false :: wr) B e2 b5 aD hb h3
   have rC := hw; rw [<- GQ h1 h2] at rC
   refine ⟨l0, dI, low', f1, f2, f0, ?_, fun cB ht => ?_⟩
   · simp only [oX, c9, rC]
     rw [ah, f3]
     simp only [iv, List.replicate_succ']
     rw [mb]; rfl
   · simp only [oX, gD, rC] at ht
     rw [ah] at ht
     obtain ⟨q7, eu, rfl⟩ := cD.1 ht
     obtain ⟨qy, rB, rfl, g1, g2, g3⟩ := f4 q7 eu
     refine ⟨_ :: qy, rB, rfl, by simp [g1], g2, fun H' sK p hp => ?_⟩
     rw [JL] at hp
     rcases dS.1 hp with rfl | hp
     · simp only [kk, rC]
     · exact g3 H' sK p hp
theorem Own.more {H : Heap} {ms : cW} (h : Own H ms) (X : Heap) : Own (H ++ X) ms :=
 ⟨fun m hm p hp => by rw [hq (h.lt hm hp)]; exact h.1 m hm p hp, h.2⟩
theorem G2 (aE aw : Env) (H : Heap) (ro : Option Nat) (d : Option (Nat × Bool)) (v : V) : ∃ pw mo, ∀ l : Nat, au.put ⟨aE, aw, H, l, ro⟩ d v = ⟨pw, mo, H, l, ro⟩ := by
 match d with
 | none => exact ⟨aE, aw, fun _ => rfl⟩
 | some (t, true) => exact ⟨aE, fR aw t v, fun _ => rfl⟩
 | some (t, false) => exact ⟨(t, v) :: aE, aw, fun _ => rfl⟩
theorem Mu {call : c3} (hc : lU call) : ∀ {B : List b3} {st : au} {cB : List au}, st.low <= st.H.length -> gD call B st = some cB -> ∀ T ∈ cB, T.low <= st.low
 | [], st, cB, hl, ht, T, hT => by
   simp only [gD, aA] at ht
   subst ht
   simp only [dS, w0, or_false] at hT
   subst hT; exact aK _
 | o :: r, st, cB, hl, ht, T, hT => by
   simp only [gD] at ht
   split at ht
   · split at ht
     · rename_i v H1 b0 hs
       obtain ⟨t0, h0, rfl⟩ := cD.1 ht
       rcases dS.1 hT with rfl | hT
       · exact aK _
       · have ae := xu hc (aK _) hs
         have hp := jL { st with H := H1, low := min st.low b0 } o.dst v
         have := Mu hc (by rw [hp.1, hp.2.1]; have := ae.len; show min st.low b0 <= H1.length; omega) h0 T hT
         rw [hp.2.1] at this
         exact c4 this (jA _ _)
     · cases ht
   · obtain ⟨t0, h0, rfl⟩ := cD.1 ht
     rcases dS.1 hT with rfl | hT
     · exact aK _
     · have hp := jL st o.dst (.ba [])
       have := Mu hc (by rw [hp.1, hp.2.1]; exact hl) h0 T hT
       rw [hp.2.1] at this; exact this
   · cases ht
theorem Mv {call : c3} : ∀ {B : List b3} {st fin : au} {wr e1 : List Bool}, c9 call B st wr = some (fin, e1) -> fin.low <= st.low
 | [], st, fin, wr, e1, h => by
   simp only [c9, aA, bw] at h
   rw [h.1]; exact aK _
 | o :: r, st, fin, wr, e1, h => by
   simp only [c9] at h
   split at h
   · split at h
     · rename_i v H1 b0 hs
       have := Mv h
       rw [(jL { st with H := H1, low := min st.low b0 } o.dst v).2.1] at this
       exact c4 this (jA _ _)
     · cases h
   · have := Mv h
     rw [(jL st o.dst (.ba [])).2.1] at this; exact this
   · cases h
theorem Mw {call : c3} : ∀ {B : List b3} {aE aw : Env} {H : Heap} {L : Nat} {ro : Option Nat} {wr e1 : List Bool} {fin : au} (gS : Nat), c9 call B ⟨aE, aw, H, L, ro⟩ wr = some (fin, e1) ->
  ∃ Ap, c9 call B ⟨aE, aw, H, gS, ro⟩ wr = some ({ fin with low := Ap }, e1) /\ min gS fin.low <= Ap
 | [], aE, aw, H, L, ro, wr, e1, fin, gS, h => by
   simp only [c9, aA, bw] at h
   obtain ⟨rfl, rfl⟩ := h
   exact ⟨gS, rfl, jA _ _⟩
 | o :: r, aE, aw, H, L, ro, wr, e1, fin, gS, h => by
   simp only [c9] at h ⊢
   split at h
   · split at h
     · rename_i v H1 b0 hs
       have lr := G2 aE aw H1 ro o.dst v
       obtain ⟨pw, mo, hp⟩ := lr
       rw [hp] at h ⊢
       obtain ⟨Ap, e, hl⟩ := Mw (min gS b0) h
       have hx := Mv h
       exact ⟨Ap, e, by simp only at hx; omega⟩
     · cases h
   · have lr := G2 aE aw H ro o.dst (.ba [])
     obtain ⟨pw, mo, hp⟩ := lr
     rw [hp] at h ⊢
     exact Mw gS h
   · cases h
theorem Mx {call : c3} : ∀ {B : List b3} {aE aw : Env} {H : Heap} {L : Nat} {ro : Option Nat} {cB : List au} (gS : Nat), gD call B ⟨aE, aw, H, L, ro⟩ = some cB ->
  ∃ q7, gD call B ⟨aE, aw, H, gS, ro⟩ = some q7 /\ q7.map (·.H) = cB.map (·.H)
 | [], aE, aw, H, L, ro, cB, gS, h => by
   simp only [gD, aA] at h
   subst h
   exact ⟨_, rfl, rfl⟩
 | o :: r, aE, aw, H, L, ro, cB, gS, h => by
   simp only [gD] at h ⊢
   split at h
   · split at h
     · rename_i v H1 b0 hs
       have lr := G2 aE aw H1 ro o.dst v
       obtain ⟨pw, mo, hp⟩ := lr
       rw [hp] at h ⊢
       obtain ⟨t0, h0, rfl⟩ := cD.1 h
       obtain ⟨t1, ah, e2⟩ := Mx (min gS b0) h0
       exact ⟨_, by rw [ah]; rfl, by simp [e2]⟩
     · cases h
   · have lr := G2 aE aw H ro o.dst (.ba [])
     obtain ⟨pw, mo, hp⟩ := lr
     rw [hp] at h ⊢
     obtain ⟨t0, h0, rfl⟩ := cD.1 h
     obtain ⟨t1, ah, e2⟩ := Mx gS h0
     exact ⟨_, by rw [ah]; rfl, by simp [e2]⟩
   · cases h
theorem My {call : c3} (hc : lU call) : ∀ {B : List b3} {st fin : au} {wr e1 : List Bool} {cB : List au}, st.low <= st.H.length -> c9 call B st wr = some (fin, e1) -> gD call B st = some cB -> ∀ T ∈ cB, fin.low <= T.low /\ ∀ l, l < T.low -> T.H[l]? = st.H[l]?
 | [], st, fin, wr, e1, cB, hl, h, ht, T, hT => by
   simp only [c9, aA, bw] at h
   simp only [gD, aA] at ht
   obtain ⟨rfl, -⟩ := h
   subst ht
   simp only [dS, w0, or_false] at hT
   subst hT
   exact ⟨aK _, fun _ _ => rfl⟩
 | o :: r, st, fin, wr, e1, cB, hl, h, ht, T, hT => by
   have h9 := (nI hc _ _ _ _ _ hl h).1.low
   simp only [c9] at h
   simp only [gD] at ht
   split at h
   · rename_i hw
     split at h
     · rename_i v H1 b0 hs
       rw [hw] at ht
       simp only [hs] at ht
       obtain ⟨t0, h0, rfl⟩ := cD.1 ht
       rcases dS.1 hT with rfl | hT
       · exact ⟨h9, fun _ _ => rfl⟩
       · have ae := xu hc (aK _) hs
         have hp := jL { st with H := H1, low := min st.low b0 } o.dst v
         have xE : (({ st with H := H1, low := min st.low b0 } : au).put o.dst v).low <= (({ st with H := H1, low := min st.low b0 } : au).put o.dst v).H.length := by
          rw [hp.1, hp.2.1]
          have := ae.len
          show min st.low b0 <= H1.length
          omega
         obtain ⟨q1, aS⟩ := My hc xE h h0 T hT
         refine ⟨q1, fun l aH => ?_⟩
         have Vd : T.low <= min st.low b0 := by
          have := Mu hc xE h0 T hT
          rw [hp.2.1] at this; exact this
         rw [aS l aH, hp.1]
         exact ae.same l (by omega)
     · cases h
   · rename_i hw
     rw [hw] at ht
     simp only at ht
     obtain ⟨t0, h0, rfl⟩ := cD.1 ht
     rcases dS.1 hT with rfl | hT
     · exact ⟨h9, fun _ _ => rfl⟩
     · have hp := jL st o.dst (.ba [])
       obtain ⟨q1, aS⟩ := My hc (by rw [hp.1, hp.2.1]; exact hl) h h0 T hT
       refine ⟨q1, fun l aH => ?_⟩
       rw [aS l aH, hp.1]
   · cases h
theorem Ve {α β : Type} : ∀ (n : Nat) (l : List α) (r : List β), (l.zip r).take n = (l.take n).zip (r.take n)
 | 0, _, _ => by simp
 | n + 1, [], _ => by simp
 | n + 1, _ :: _, [] => by simp
 | n + 1, a :: l, b :: r => by simp [Ve n l r]
section
variable {ad : Nat -> Option ca} {b : Nat} {σ ij dV : cb} {H : Heap} {Q : X -> cb -> Heap -> Prop} {ms : cW}
theorem Vf (ad : Nat -> Option ca) : lU (cK ad) := fun f args H v H' low' h => by
 obtain ⟨n, hn⟩ := tx.1 h
 exact FZ ad n f args H v H' low' hn
theorem Vg {ops : List b3} {fY : List Nat} (n : Nat) (aD : Own H ms) (hn : jX ops = n) (hA : ig (cK ad) ms (ops.take n) nN σ ij dV)
  (dC : b <= H.length -> Op ad H.length (ops.drop n) ij dV H (List.replicate n false) (fun a7 H' wr => vp fY ops wr = true /\ Q .normal a7 H')) : ft ad b (.region ops (some fY)) σ H Q := fun aw low h1 h2 av => by
 have arK : n <= ops.length := by rw [<- hn]; exact Ls _ _
 have hlen : (ops.take n).length = n := by rw [qP]; omega
 have sz : ops.take n ++ ops.drop n = ops := PA n ops
 obtain ⟨l0, dI, low', f1, f2, f0, f3, f4⟩ := hA.run (b := b) (wr := []) (ops.drop n) sH h1 aD h2 av
 rw [sz, hlen, vh] at f3
 rw [sz] at f4
 obtain ⟨Vh, Aq, H2, dv, L4, kT, ah, e2, b5, cU, ej, jH⟩ := dC av l0 dI H.length f1 f2 (aK _) (aK _)
 obtain ⟨Ap, g1, g2⟩ := Mw low' ah
 obtain ⟨afK, Vi⟩ := G1 ah
 have ra := My (Vf ad) (aK _) ah Vi
 rw [<- f3] at g1
 obtain ⟨cB, sx⟩ := G1 g1
 obtain ⟨qy, rB, rfl, cn, dZ, lx⟩ := f4 cB sx
 obtain ⟨arL, q1, aS⟩ := Mx low' Vi
 rw [dZ] at q1
 cases q1
 have afL : ∀ T ∈ rB, Own T.H ms := fun T hT => by
  have hm : T.H ∈ afK.map (·.H) := by rw [<- aS]; exact r2 hT
  obtain ⟨afM, tW, e⟩ := ey.1 hm
  rw [<- e]
  obtain ⟨bG, ch⟩ := ra afM tW
  refine ⟨fun m hm p hp => ?_, aD.2⟩
  have aH := aD.lt hm hp
  rw [ch p.1 (by simp only at bG; omega)]
  exact aD.1 m hm p hp
 have ux : n8 (cK ad) fY ops L4 ⟨[], aw, H, low, none⟩ = true := by
  unfold n8
  rw [sx]
  simp only [ej, dt]
  have eo : (zv ops (qy ++ rB)).all (kk (cK ad)) = true := by
   unfold zv
   rw [fo]
   intro q bD
   simp only [PO, PK] at bD
   obtain ⟨T, hT, ⟨o, s⟩, dn, Mz⟩ := bD
   have aP : (ops.zip (qy ++ rB)).take (jX ops) = (ops.take n).zip qy := by
    rw [hn, Ve, List.take_left' (by rw [cn, hlen])]
   rw [aP] at dn
   have afN : T ∈ rB := by
    have hge : qy.length <= n7 ops := by rw [cn, hlen, <- hn]; exact RV ops
    rw [PN, td hge, oZ] at hT
    exact E9 hT
   split at Mz
   · cases Mz
     exact lx _ (afL T afN) _ dn
   · cases Mz
  rw [eo]; simp
 refine ⟨.normal, Aq, H2, Ap, kT, by rw [mH]; simp only [g1, ux, Bool.or_true, if_true, au.fz], e2, ?_, c4 av cU, jH⟩
 simp only at g2
 have := c4 av b5
 omega
end
end Go.Abs
