/- Texts of this claim, joined and written short by a program. -/
import Derived.Test.YtjgngmpmjbkbpaaGreatDoorP03
import Derived.Laws.CopyRow
import Derived.ChangeKeysEq
import Derived.DefersIn
import Derived.WalkLawsBesides
import Derived.Test.YtjgngmpmjbkbpaaGreatDoorP00
set_option linter.unusedVariables false
set_option linter.unusedSimpArgs false
set_option linter.unusedSectionVars false
namespace Go.Abs
open Go
variable {C : Ctx} {fid : Nat -> Nat} {w w' : World} {G G' : bT} {H : Heap}
def FE (P : Program) (d : Deferred) : Prop :=
 ∃ fv cap f args, d.target = .fn fv cap /\ ∀ w, (invoke d.target d.args).run P w = .ok (.enter f args) w /\
   CallsDIn Fence.wide 0 P f args .returning w fun e u' w' => (∃ v, e = .returned v) /\ u' = .returning /\ w' = w
structure eR (C : Ctx) (fid : Nat -> Nat) : Prop where
 f : ∀ f i, C.Fq f = some i -> i = f
 Z6 : ∀ i, i ∈ C.zy -> ∀ caps : Array Value, FE C.P { target := .fn (.func i) caps, args := #[] }
mutual
theorem BR {I : Nat -> Prop} : ∀ (x : Value) {v : V}, lQ x = some v -> v = .undef \/ fE w I v x
 | .bool b, v, h => by simp only [lQ, aA] at h; subst h; exact .inr (.bool b)
 | .int k n, v, h => by simp only [lQ, aA] at h; subst h; exact .inr (.int k n)
 | .string ⟨⟨s⟩⟩, v, h => by simp only [lQ, aA] at h; subst h; exact .inr (.str s)
 | .pointer none, v, h => by simp only [lQ, aA] at h; subst h; exact .inr .iM
 | .slice none 0 0, v, h => by simp only [lQ, aA] at h; subst h; exact .inr .c0
 | .map none, v, h => by simp only [lQ, aA] at h; subst h; exact .inr .hU
 | .nilFunc, v, h => by simp only [lQ, aA] at h; subst h; exact .inr .jB
 | .nilIface, v, h => by simp only [lQ, aA] at h; subst h; exact .inr .iN
 | .agg ⟨vs⟩, v, h => by
   simp only [lQ, cD] at h
   obtain ⟨us, hu, rfl⟩ := h
   exact .inr (.agg us vs (FF vs hu))
 | .tuple ⟨[]⟩, v, h => by simp only [lQ, aA] at h; subst h; exact .inl rfl
 | .tuple ⟨_ :: _⟩, v, h => by simp [lQ] at h
 | .slice none (n + 1) _, v, h => by simp [lQ] at h
 | .slice none 0 (n + 1), v, h => by simp [lQ] at h
 | .pointer (some _), v, h | .slice (some _) _ _, v, h | .map (some _), v, h | .float .., v, h | .complex .., v, h | .chan .., v, h | .func .., v, h | .iface .., v, h => by simp [lQ] at h
theorem FF {I : Nat -> Prop} : ∀ (xs : List Value) {vs : List V}, zx xs = some vs -> c6 w I vs xs
 | [], vs, h => by simp only [zx, aA] at h; subst h; exact .nil
 | x :: r, vs, h => by
   simp only [zx] at h
   split at h
   · rename_i v af
     split at h
     · cases h
     · simp only [cD] at h
       obtain ⟨us, hu, rfl⟩ := h
       exact .cons v x us r ((BR x af).resolve_left (by rintro rfl; simp_all [tr])) (FF r hu)
   · cases h
end
def fh (C : Ctx) (fid : Nat -> Nat) (vars : List Nat) (G : bT) (w : World) (ag : aj -> V) (ρ : Operand -> Value) : Prop :=
 ∀ x cv, C.bV vars x = some cv -> bg fid G w (ag cv) (ρ x)
def dh (C : Ctx) (fid : Nat -> Nat) (G : bT) (H : Heap) (w : World) (Z7 : Nat) (r : Result Next) (v : V) (H' : Heap) (low' : Nat) : Prop :=
 ∃ x w' G', (r = .ok (.value x) w' \/ (r = .ok .skip w' /\ x = undef)) /\ bb C fid G' H' w' /\ (∀ m, m <= low' -> Ext G w G' w' m H.length) /\ bg fid G' w' v x /\ low' <= Z7 /\ H.length <= H'.length
theorem dh.same (aa : bb C fid G H w) {low : Nat} {r : Result Next} {v : V} {x : Value} (hr : r = .ok (.value x) w) (af : bg fid G w v x) : dh C fid G H w low r v H low :=
 ⟨x, w, G, .inl hr, aa, fun _ _ => .refl _ _ _ _, af, aK _, aK _⟩
theorem dh.alloc (aa : bb C fid G H w) {low : Nat} {r : Result Next} {v : V} {x : Value} {o : cE} {aT : Obj} (tag ff : Nat) (hr : r = .ok (.value x) (w.alloc aT))
  (ho : iT C fid ⟨cg G.β H.length ⟨w.heap.size, tag, ff, false⟩, G.I⟩ (w.alloc aT) ⟨w.heap.size, tag, ff, false⟩ o)
  (af : bg fid ⟨cg G.β H.length ⟨w.heap.size, tag, ff, false⟩, G.I⟩ (w.alloc aT) v x) : dh C fid G H w low r v (H ++ [o]) low :=
 ⟨x, _, _, .inl hr, aa.push o aT tag ff ho, fun m _ => .push aa aT tag ff m, af, aK _, by simp⟩
theorem dh.zH {low b0 : Nat} {ax : bT} {H1 : Heap} (f : kI C fid G H w low ax H1 b0) {r : Result Next} {v : V} {H' : Heap} {low' : Nat} (h : dh C fid ax H1 w b0 r v H' low') :
  dh C fid G H w low r v H' low' := by
 obtain ⟨x, w', G', hr, aa, he, af, hl, hn⟩ := h
 refine ⟨x, w', G', hr, aa, fun m hm => (f.ext m (c4 hm hl)).trans ((he m hm).le (aK _) (Nat.le_of_eq f.len.symm)), af, c4 hl f.low, by have := f.len; omega⟩
section ops
variable {vars : List Nat} {ag : aj -> V} {ρ : Operand -> Value} {low low' : Nat} {v : V} {H' : Heap} {pos : String} {c7 : cH} {o : Oper}
theorem Kt (bx : eR C fid) {f : FuncId} {cv : aj} (h : C.bV vars (.func f) = some cv) {aE aw : Env} : bg fid G w (cv.ag aE aw) (.func (.func f) #[] #[]) := by
 simp only [Ctx.bV, cD] at h
 obtain ⟨i, hi, rfl⟩ := h
 have e := bx.f f i hi
 subst e
 exact bg.fn (fid := fid) (G := G) (w := w) i [] [] [] [] .nil .nil
theorem bg.j1 {x : Value} {b : Bool} (h : bg fid G w (.bool b) x) : x = .bool b := by
 cases h with | p _ _ h => cases h; rfl
theorem bg.jm {x : Value} {k : IntKind} {n : Int} (h : bg fid G w (.int k n) x) : x = .int k n := by
 cases h with | p _ _ h => cases h; rfl
theorem bg.og {x : Value} {s : List UInt8} (h : bg fid G w (.str s) x) : x = .string ⟨⟨s⟩⟩ := by
 cases h with | p _ _ h => cases h; rfl
theorem bg.nB {x : Value} {l o : Nat} (h : bg fid G w (.ptr l o) x) : ∃ h, G.β l = some h /\ h.tag = 0 /\ x = .pointer (some ⟨h.b, o, none⟩) := by
 cases h with
 | p _ _ h => cases h
 | ptr _ _ h hb ht => exact ⟨h, hb, ht, rfl⟩
theorem bg.mapInv {x : Value} {l : Nat} (h : bg fid G w (.map l) x) : ∃ h, G.β l = some h /\ h.tag = 0 /\ x = .map (some h.b) := by
 cases h with
 | p _ _ h => cases h
 | map _ h hb ht => exact ⟨h, hb, ht, rfl⟩
theorem bg.BS {x : Value} {l es i f tag : Nat} (h : bg fid G w (.gw l es i f tag) x) :
  ∃ h a, G.β l = some h /\ tag <= h.tag /\ (h.tag = tag -> a = ⟨h.b, i * es + f, none⟩) /\ x = .pointer (some a) := by
 cases h with
 | p _ _ h => cases h
 | gw _ _ _ _ _ h a hb hle ao => exact ⟨h, a, hb, hle, ao, rfl⟩
theorem bg.Ku {x : Value} {vs : List V} {f : Nat} (h : bg fid G w (.dB vs f) x) :
  ∃ b o vals, G.I b /\ asJ w b o vals /\ c6 w G.I vs vals /\ x = .pointer (some ⟨b, o + f, none⟩) := by
 cases h with
 | p _ _ h => cases h
 | dB _ _ b o vals aZ hc hr => exact ⟨b, o, vals, aZ, hc, hr, rfl⟩
theorem bg.o7 {x : Value} {l es off len tag : Nat} (h : bg fid G w (.cQ l es off len tag) x) :
  ∃ h a n cap, G.β l = some h /\ tag <= h.tag /\ (h.tag = tag -> a = ⟨h.b, off * es, none⟩ /\ n = len /\ (off + cap) * es <= h.ff /\ len <= cap) /\ x = .slice (some a) n cap := by
 cases h with
 | p _ _ h => cases h
 | cQ _ _ _ _ _ h a n cap hb hle ao => exact ⟨h, a, n, cap, hb, hle, ao, rfl⟩
theorem bg.zI {x : Value} {i : Nat} {fs cs : List V} (h : bg fid G w (.fn i fs cs) x) :
  ∃ xs cN, a6 fid G w fs xs /\ a6 fid G w cs cN /\ x = .func (.func i) ⟨xs⟩ ⟨cN⟩ := by
 cases h with
 | p _ _ h => cases h with | fn _ _ _ xs cN ae hc => exact ⟨xs, cN, c6.od ae, c6.od hc, rfl⟩
 | fn _ _ _ xs cN ae hc => exact ⟨xs, cN, ae, hc, rfl⟩
theorem bg.Z8 {x : Value} {l : Nat} (h : bg fid G w (.yield l) x) : ∃ h, G.β l = some h /\ h.tag = 0 /\ x = .func (.yield h.b) #[] #[] := by
 cases h with
 | p _ _ h => cases h
 | yield _ h hb ht => exact ⟨h, hb, ht, rfl⟩
theorem a6.hJ {cs : List V} {xs : List Value} (h : a6 fid G w cs xs) {o : Nat} {sh : Option Nat} {u : V} (hr : Abs.hJ cs o sh = some u) :
  match sh with
  | none => ∃ x, xs[o]? = some x /\ bg fid G w u x
  | some n => o + n <= xs.length /\ bg fid G w u (.agg ⟨(xs.drop o).take n⟩) := by
 cases sh with
 | none => exact h.get hr
 | some n =>
   simp only [Abs.hJ] at hr
   split at hr
   · rename_i hle
     simp only [aA] at hr
     subst hr
     exact ⟨by rw [h.length]; exact hle, .agg _ _ ((h.drop o).take n)⟩
   · cases hr
theorem QH {t : TypeId} {sh : Option Nat} (h : C.shapeOf t = some sh) :
  (∃ n, sh = some n /\ (∀ w, (isAgg t).run C.P w = .ok true w) /\ ∀ w, (Go.sizeOf t).run C.P w = .ok n w) \/ (sh = none /\ ∀ w, (isAgg t).run C.P w = .ok false w) := by
 unfold Ctx.shapeOf at h
 have key : ∀ d, C.P.underlying t = some d -> ∀ w, (isAgg t).run C.P w = .ok (match d with | .struct _ | .array _ _ => true | _ => false) w := by
  intro d hd w
  unfold isAgg
  rw [Sem.run_bind, run_underlying hd]
  cases d <;> rfl
 have ld : ∀ n, C.sizeOf t = some n -> ∀ w, (Go.sizeOf t).run C.P w = .ok n w := by
  intro n hn w
  simp only [Ctx.sizeOf, cD] at hn
  obtain ⟨i, hi, rfl⟩ := hn
  unfold Go.sizeOf
  rw [Sem.run_bind, run_typeInfo (P := C.P) w hi]; rfl
 cases hd : C.P.underlying t with
 | none => rw [hd] at h; cases h
 | some d =>
   rw [hd] at h
   have ai := key d hd
   cases d <;> simp only [aA, cD] at h <;>
    first
     | exact .inr ⟨h.symm, ai⟩
     | (obtain ⟨n, hn, rfl⟩ := h; exact .inl ⟨n, rfl, ai, ld n hn⟩)
theorem Kv {t : TypeId} {sh : Option Nat} (h : C.shapeOf t = some sh) {b o : Nat} {cs : List V} {vals : List Value} {f : Nat} (hc : asJ w b o vals) (af : a6 fid G w cs vals) {u : V}
  (hr : Abs.hJ cs f sh = some u) : ∃ x, (loadVar t ⟨b, o + f, none⟩).run C.P w = .ok x w /\ bg fid G w u x := by
 have ai := af.hJ hr
 rcases QH h with ⟨n, rfl, ao, hs⟩ | ⟨rfl, ao⟩
 · obtain ⟨hle, hu⟩ := ai
   refine ⟨_, ?_, hu⟩
   have fA : ∀ (j : Nat) (x : Value), ((vals.drop f).take n)[j]? = some x -> w.cell? (Addr.add ⟨b, o + f, none⟩ j) = some x := by
    intro j x hx
    rw [Addr.add_lit]
    rw [JK] at hx
    split at hx
    · rw [PG] at hx; rw [p4]; exact hc _ _ hx
    · cases hx
   have hl := run_loadCells_list (P := C.P) w ⟨b, o + f, none⟩ _ fA
   have hlen : ((vals.drop f).take n).length = n := by simp; omega
   rw [hlen] at hl
   unfold loadVar
   simp only [Sem.run_bind, ao, hs, Result.andThen_ok, if_true, hl, Sem.run_pure]
 · obtain ⟨x, hx, hu⟩ := ai
   refine ⟨x, ?_, hu⟩
   unfold loadVar
   simp only [Sem.run_bind, ao, Result.andThen_ok, gX, if_false, run_load, hc f x hx]
theorem QI (aa : bb C fid G H w) {t : TypeId} {sh : Option Nat} (h : C.shapeOf t = some sh) {a u : V} {x : Value} (ao : bg fid G w a x) (he : jk H sh a = some u) :
  ∃ y, (Instr.loadAt t x).run C.P w = .ok y w /\ bg fid G w u y := by
 unfold jk at he
 split at he
 · rename_i l o
   obtain ⟨h0, hb, ht, rfl⟩ := ao.nB
   split at he
   · rename_i vs hl
     obtain ⟨aT, ho, hr⟩ := aa.obj l h0 hb
     rw [hl] at ho; cases ho
     obtain ⟨-, -, c, e, hc, af⟩ := hr
     obtain ⟨y, hy, hu⟩ := Kv (o := 0) h (asJ.xc (vals := c.toList) (rest := []) hc (by simp)) af he
     rw [eF] at hy
     exact ⟨y, by simp only [Instr.loadAt, Instr.sureAddr, Sem.run_bind, Sem.run_pure, Result.andThen_ok, hy], hu⟩
   · cases he
 · rename_i l es i f tag
   obtain ⟨h0, df, hb, hle, jn, rfl⟩ := ao.BS
   split at he
   · rename_i bC ds dW hl
     split at he
     · rename_i hc
       obtain ⟨rfl, fK⟩ := hc
       obtain ⟨aT, ho, hr⟩ := aa.obj l h0 hb
       rw [hl] at ho; cases ho
       obtain ⟨ht, -, -, -, hu, c, e, vals, rest, hc, fA, af, fg⟩ := hr
       obtain ⟨d, hd, BT⟩ := dG.1 he
       have kK : (aG d).length = bC := hu d (fm hd)
       have Z9 : a6 fid G w (aG d) ((vals.drop (i * bC)).take bC) := by
        have h1 : (ds.drop i).flatMap aG = (ds.flatMap aG).drop (i * bC) := xb hu i
        have h2 : ds.drop i = d :: ds.drop (i + 1) := by
         obtain ⟨hi, rfl⟩ := fy.1 hd
         exact oU hi
        have av := (fg.drop (i * bC)).take bC
        rw [<- h1, h2, kF, List.take_append, kK, Nat.sub_self, List.take_zero, vh, JF (by omega)] at av
        exact av
       have hB : asJ w h0.b (i * bC) ((vals.drop (i * bC)).take bC) := by
        have := ((asJ.xc hc af).drop (i * bC)).take bC
        rwa [eF] at this
       obtain ⟨y, hy, aaa⟩ := Kv h hB Z9 BT
       rw [jn (ht.trans fK)]
       exact ⟨y, by simp only [Instr.loadAt, Instr.sureAddr, Sem.run_bind, Sem.run_pure, Result.andThen_ok, hy], aaa⟩
     · cases he
   · cases he
 · rename_i vs f
   obtain ⟨b, o, vals, aZ, hc, hr, rfl⟩ := ao.Ku
   obtain ⟨y, hy, hu⟩ := Kv h hc (c6.od (fid := fid) hr) he
   exact ⟨y, by simp only [Instr.loadAt, Instr.sureAddr, Sem.run_bind, Sem.run_pure, Result.andThen_ok, hy], hu⟩
 · cases he
theorem QJ {c : V} {x : Value} (h : bg fid G w c x) (hc : eP c = true) : x.oneCell' = true := by
 cases h with
 | p _ _ h => cases h <;> first | rfl | simp [eP] at hc
 | agg => simp [eP] at hc
 | ba => simp [eP] at hc
 | undef => simp [eP] at hc
 | _ => rfl
theorem FG : ∀ {cs : List V} {xs : List Value}, a6 fid G w cs xs -> b4 cs = true -> ∀ x ∈ xs, x.oneCell' = true
 | _, _, .nil, _, x, hx => by simp at hx
 | _, _, .cons v y vs cN h hs, hc, x, hx => by
   simp only [b4, cd] at hc
   rcases dS.1 hx with rfl | hx
   · exact QJ h hc.1
   · exact FG hs hc.2 x hx
theorem zJ {v : V} {y : Value} (h : bg fid G w v y) (hc : b4 (aG v) = true) : a6 fid G w (aG v) y.cells.toList /\ ∀ c ∈ y.cells.toList, c.oneCell' = true := by
 by_cases af : ∃ vs, v = .agg vs
 · obtain ⟨vs, rfl⟩ := af
   obtain ⟨vals, rfl, hr⟩ := h.BO
   exact ⟨hr, FG hr hc⟩
 · have e : aG v = [v] := by
    cases v <;> first | rfl | (exfalso; exact af ⟨_, rfl⟩)
   rw [e] at hc ⊢
   have h1 : y.oneCell' = true := QJ h (by simpa [b4] using hc)
   have e' : y.cells = #[y] := by cases y <;> first | rfl | simp [Value.oneCell'] at h1
   rw [e']
   exact ⟨.cons _ _ _ _ h .nil, fun c hc => by simp at hc; subst hc; exact h1⟩
theorem BU : ∀ {cN : List V} {dc : List Value} {cs : List V} {xs : List Value} (o : Nat), a6 fid G w cs xs -> a6 fid G w cN dc -> o + cN.length <= cs.length ->
  a6 fid G w (setCells cs o cN) (xs.take o ++ dc ++ xs.drop (o + dc.length))
 | _, _, cs, xs, o, h, .nil, _ => by simpa [setCells] using h
 | _, _, cs, xs, o, h, .cons y z cN dc hy hs, hl => by
   have hlen := h.length
   simp only [iv] at hl
   have ih := BU (o + 1) (h.set o hy) hs (by simp; omega)
   simp only [setCells]
   have e := list_seg_step xs o z dc (by have := hs.length; omega)
   rw [<- iv (a := z)] at e
   rw [<- e]; exact ih
theorem QK : ∀ (cN cs : List V) (o : Nat), (setCells cs o cN).length = cs.length
 | [], cs, o => rfl
 | y :: cN, cs, o => by rw [setCells, QK cN]; simp
theorem setRow_other {g b : Nat} (hb : b ≠ g) (c : Array Value) : (w.setRow g c).heap[b]? = w.heap[b]? := by
 unfold World.setRow
 simp only [Array.getElem?_modify]
 rw [if_neg (by omega)]
theorem setRow_size (g : Nat) (c : Array Value) : (w.setRow g c).heap.size = w.heap.size := by
 unfold World.setRow; simp
theorem aab (aa : bb C fid G H w) {l : Nat} {h : Home} {vs cN : List V} (hb : G.β l = some h) (hl : H[l]? = some (.cells vs)) {o : Nat} {dc : List Value} (hy : a6 fid G w cN dc)
  (lf : o + cN.length <= vs.length) {c : Array Value} {e : TypeId} (hc : w.heap[h.b]? = some (.cells c e (0, 0))) :
  ∃ G', bb C fid G' (H.set l (.cells (setCells vs o cN))) (w.setRow h.b (c.toList.take o ++ dc ++ c.toList.drop (o + dc.length)).toArray) /\
    Ext G w G' (w.setRow h.b (c.toList.take o ++ dc ++ c.toList.drop (o + dc.length)).toArray) l H.length := by
 obtain ⟨aT, ho, hr⟩ := aa.obj l h hb
 rw [hl] at ho; cases ho
 obtain ⟨ht, ae, c', e', tF, af⟩ := hr
 rw [hc] at tF; cases tF
 refine ⟨⟨cg G.β l h, G.I⟩, ?_, ?_⟩
 · refine bb.write aa hb ae rfl ae (aK _) id rfl (setRow_size _ _) (fun b bA => setRow_other bA _) _ ?_
   refine ⟨ht, ae, _, e, setRow_heap w h.b c _ e _ hc, ?_⟩
   have hx : Ext G w ⟨cg G.β l h, G.I⟩ (w.setRow h.b (c.toList.take o ++ dc ++ c.toList.drop (o + dc.length)).toArray) l H.length :=
    Ext.write aa hb ae rfl (aK _) id rfl (setRow_size _ _) (fun b bA => setRow_other bA _) rfl rfl
   exact ((BU o af hy lf).ext aa hx)
 · exact Ext.write aa hb ae rfl (aK _) id rfl (setRow_size _ _) (fun b bA => setRow_other bA _) rfl rfl
theorem QL : ∀ (xs a b : List V) (o : Nat), o + xs.length <= a.length -> setCells (a ++ b) o xs = setCells a o xs ++ b
 | [], _, _, _, _ => rfl
 | x :: xs, a, b, o, h => by
   simp only [iv] at h
   rw [setCells, setCells, PB _ _ (by omega), QL xs _ b (o + 1) (by simp; omega)]
theorem QM : ∀ (xs a b : List V) (o : Nat), setCells (a ++ b) (a.length + o) xs = a ++ setCells b o xs
 | [], _, _, _ => rfl
 | x :: xs, a, b, o => by
   rw [setCells, setCells, List.set_append_right _ _ (by omega), aun, p4, QM xs a]
theorem Kw {es : Nat} {d' : V} {f : Nat} {xs : List V} : ∀ {ds : List V} {i : Nat} {d : V}, (∀ d ∈ ds, (aG d).length = es) -> ds[i]? = some d -> f + xs.length <= es -> aG d' = setCells (aG d) f xs ->
  (ds.set i d').flatMap aG = setCells (ds.flatMap aG) (i * es + f) xs
 | [], i, d, _, h, _, _ => by simp at h
 | a :: ds, 0, d, hu, h, ae, he => by
   simp at h; subst h
   have := hu a (by simp)
   rw [List.set_cons_zero, kF, kF, he, Nat.zero_mul, eF, QL _ _ _ _ (by omega)]
 | a :: ds, i + 1, d, hu, h, ae, he => by
   have h1 := hu a (by simp)
   have ih := Kw (fun x hx => hu x (by simp [hx])) (i := i) (d := d) (ds := ds) (by simpa using h) ae he
   rw [List.set_cons_succ, kF, kF, ih, BD, Nat.add_comm (i * es) es, p4, <- h1, QM]
theorem aac {d d' : V} {f : Nat} {xs : List V} (h : vm d f xs = some d') (hp : k6 xs = true) : aG d' = setCells (aG d) f xs /\ f + xs.length <= (aG d).length := by
 unfold vm at h
 split at h
 · split at h
   · simp only [aA] at h; subst h
     rename_i hle
     exact ⟨rfl, hle⟩
   · cases h
 · rename_i bA
   have e : aG d = [d] := by cases d <;> first | rfl | (exfalso; exact bA _ rfl)
   split at h
   · rename_i x
     simp only [aA] at h; subst h
     rw [e]
     refine ⟨?_, by simp⟩
     simp only [k6, vk] at hp
     cases x <;> first | rfl | simp [plainCell] at hp
   · cases h
theorem Kx : ∀ {xs : List V}, k6 xs = true -> b4 xs = true
 | [], _ => rfl
 | x :: xs, h => by
   simp only [k6, cd] at h
   simp only [b4, cd]
   exact ⟨by cases x <;> simp_all [plainCell, eP], Kx h.2⟩
theorem QN (aa : bb C fid G H w) {l es : Nat} {ds ds' : List V} {h : Home} (hb : G.β l = some h) (hl : H[l]? = some (.row es ds false)) (hn : ds'.length = ds.length)
  (mL : ∀ d ∈ ds', (aG d).length = es) {o : Nat} {cN : List V} {dc : List Value} (hy : a6 fid G w cN dc) (lf : o + cN.length <= ds.length * es)
  (xf : ∀ vals, a6 fid G w (ds.flatMap aG) vals -> a6 fid G w (ds'.flatMap aG) (vals.take o ++ dc ++ vals.drop (o + dc.length))) {c : Array Value} {e : TypeId} (hc : w.heap[h.b]? = some (.cells c e (0, 0))) :
  ∃ G', bb C fid G' (H.set l (.row es ds' false)) (w.setRow h.b (c.toList.take o ++ dc ++ c.toList.drop (o + dc.length)).toArray) /\
    Ext G w G' (w.setRow h.b (c.toList.take o ++ dc ++ c.toList.drop (o + dc.length)).toArray) l H.length := by
 obtain ⟨aT, ho, hr⟩ := aa.obj l h hb
 rw [hl] at ho; cases ho
 obtain ⟨ht, jE, ae, fL, hu, c', e', vals, rest, tF, fA, af, fg⟩ := hr
 rw [hc] at tF; cases tF
 have hx : Ext G w ⟨cg G.β l h, G.I⟩ (w.setRow h.b (c.toList.take o ++ dc ++ c.toList.drop (o + dc.length)).toArray) l H.length :=
  Ext.write aa hb ae rfl (aK _) id rfl (setRow_size _ _) (fun b bA => setRow_other bA _) rfl rfl
 have lg := mK hu
 have lh := fg.length
 have qW := hy.length
 refine ⟨_, ?_, hx⟩
 refine bb.write aa hb ae rfl ae (aK _) id rfl (setRow_size _ _) (fun b bA => setRow_other bA _) _ ?_
 refine ⟨by rw [ht, hn], by omega, ae, fL, mL, _, e, vals.take o ++ dc ++ vals.drop (o + dc.length), rest, setRow_heap w h.b c _ e _ hc, ?_, ?_, ?_⟩
 · rw [fA]
   simp only [zm, kg, qP, oW, gW]
   have : c.size = vals.length + rest.length := by rw [<- gW, af, kg]
   omega
 · rw [PF, af, List.take_append_of_le_length (by omega), List.drop_append_of_le_length (by omega), mb _ _ rest]
 · exact (xf vals fg).ext aa hx
theorem aad (aa : bb C fid G H w) {t : TypeId} {n : Nat} (hs : C.sizeOf t = some n) {a u : V} {x y : Value} (ao : bg fid G w a x) (hu : bg fid G w u y) {l : Nat} (he : iO H n a u = some (H', l)) :
  ∃ w' G', (Instr.storeAt t x y).run C.P w = .ok () w' /\ bb C fid G' H' w' /\ Ext G w G' w' l H.length /\ l < H.length /\ H'.length = H.length := by
 have dP : ∀ w, (Go.sizeOf t).run C.P w = .ok n w := by
  intro w
  simp only [Ctx.sizeOf, cD] at hs
  obtain ⟨i, hi, rfl⟩ := hs
  unfold Go.sizeOf
  rw [Sem.run_bind, run_typeInfo (P := C.P) w hi]; rfl
 have cf : ∀ (b o : Nat) (c : Array Value) (e : TypeId), w.heap[b]? = some (.cells c e (0, 0)) -> (aG u).length = n -> b4 (aG u) = true -> o + n <= c.size -> x = .pointer (some ⟨b, o, none⟩) ->
   (Instr.storeAt t x y).run C.P w = .ok () (w.setRow b (c.toList.take o ++ y.cells.toList ++ c.toList.drop (o + y.cells.toList.length)).toArray) := by
  intro b o c e hc hlen bd hle hx
  obtain ⟨h1, h2⟩ := zJ hu bd
  have hl := h1.length
  subst hx
  have aae : y.cells.size = n := by rw [<- gW, hl, hlen]
  simp only [Instr.storeAt, Instr.sureAddr, storeVar, Sem.run_bind, Sem.run_pure, Result.andThen_ok, dP, aae, ne_eq, not_true, if_false]
  have := run_storeCells_at C.P b o e y.cells.toList 0 c w hc (by omega) h2
  simpa using this
 unfold iO at he
 split at he
 · rename_i fp o
   obtain ⟨h0, hb, ht, rfl⟩ := ao.nB
   split at he
   · rename_i vs hl
     split at he
     · rename_i hc
       obtain ⟨hlen, hle, bd⟩ := hc
       simp only [aA, bw] at he
       obtain ⟨rfl, rfl⟩ := he
       obtain ⟨aT, ho, hr⟩ := aa.obj fp h0 hb
       rw [hl] at ho; cases ho
       obtain ⟨-, -, c, e, hc, af⟩ := hr
       have lh := af.length
       obtain ⟨h1, h2⟩ := zJ hu bd
       obtain ⟨G', bG, ch⟩ := aab aa hb hl h1 (by rw [hlen]; exact hle) hc
       exact ⟨_, G', cf h0.b o c e hc hlen bd (by rw [<- gW]; omega) rfl, bG, ch, aa.lt hb, by simp⟩
     · cases he
   · cases he
 · rename_i fp es i f tag
   obtain ⟨h0, df, hb, qX, jn, rfl⟩ := ao.BS
   split at he
   · rename_i bC ds hl
     split at he
     · rename_i hc
       obtain ⟨rfl, fK, hlen, jo⟩ := hc
       split at he
       · rename_i d hd
         split at he
         · rename_i d' aaf
           simp only [aA, bw] at he
           obtain ⟨rfl, rfl⟩ := he
           obtain ⟨aT, ho, hr⟩ := aa.obj fp h0 hb
           rw [hl] at ho; cases ho
           obtain ⟨ht, jE, ae, fL, me, c, e, vals, rest, hc, fA, af, fg⟩ := hr
           obtain ⟨p1, p2⟩ := aac aaf jo
           have kK : (aG d).length = bC := me d (fm hd)
           have bd := Kx jo
           obtain ⟨h1, h2⟩ := zJ hu bd
           have hi : i < ds.length := by
            obtain ⟨hi, -⟩ := fy.1 hd; exact hi
           have hmul : i * bC + bC <= ds.length * bC := by
            have : (i + 1) * bC <= ds.length * bC := JG _ hi
            rw [BD] at this; exact this
           have aag : (aG d').length = bC := by rw [p1, QK, kK]
           have lg := mK me
           have lh := fg.length
           have qe : c.size = vals.length + rest.length := by rw [<- gW, af, kg]
           obtain ⟨G', bG, ch⟩ := QN aa hb hl (ds' := ds.set i d') (by simp)
            (fun a ao => by rcases List.mem_or_eq_of_mem_set ao with q | rfl; exact me a q; exact aag) (o := i * bC + f) h1 (by omega) (fun vals af => by rw [Kw me hd (by omega) p1]; exact BU _ af h1 (by omega)) hc
           refine ⟨_, G', cf h0.b (i * bC + f) c e hc hlen bd (by omega) ?_, bG, ch, aa.lt hb, by simp⟩
           rw [jn (ht.trans fK)]
         · cases he
       · cases he
     · cases he
   · cases he
 · cases he
end ops
end Go.Abs
namespace Go.Abs
open Go
variable {C : Ctx} {fid : Nat -> Nat} {w w' : World} {G G' : bT} {H : Heap}
variable {vars : List Nat} {ag : aj -> V} {ρ : Operand -> Value} {low low' : Nat} {v : V} {H' : Heap} {pos : String} {c7 : cH} {o : Oper}
theorem QO (aa : bb C fid G H w) (aM : fh C fid vars G w ag ρ) {x : Operand} (ho : o.op = .move x \/ o.op = .assign x) (hc : C.cI vars pos o.op = some c7) (he : step ag H low c7 = some (v, H', low')) :
  dh C fid G H w low ((execOp ρ o).run C.P w) v H' low' := by
 have tF : (C.bV vars x).map cH.mv = some c7 := by rcases ho with ho | ho <;> (rw [ho] at hc; exact hc)
 obtain ⟨cv, hx, rfl⟩ := cD.1 tF
 simp only [step, aA, bw] at he
 obtain ⟨rfl, rfl, rfl⟩ := he
 exact .same aa (x := ρ x) (by unfold execOp; rcases ho with ho | ho <;> rw [ho] <;> rfl) (aM x cv hx)
theorem aah (aa : bb C fid G H w) (aM : fh C fid vars G w ag ρ) {c a b : Operand} (ho : o.op = .pick c a b) (hc : C.cI vars pos o.op = some c7) (he : step ag H low c7 = some (v, H', low')) :
  dh C fid G H w low ((execOp ρ o).run C.P w) v H' low' := by
 rw [ho] at hc
 simp only [Ctx.cI] at hc
 split at hc
 · rename_i c' bf eE h1 h2 av
   simp only [aA] at hc; subst hc
   simp only [step] at he
   obtain ⟨t, ht, he⟩ := cD.1 he
   simp only [bw] at he
   obtain ⟨rfl, rfl, rfl⟩ := he
   have kl : ag c' = .bool t := by
    unfold o3 at ht
    split at ht
    · simp only [aA] at ht; subst ht; assumption
    · cases ht
   have := aM c c' h1
   rw [kl] at this
   have hb := this.j1
   refine .same aa (x := if t then ρ a else ρ b) (by unfold execOp; rw [ho]; simp only [hb, asBool, Sem.run_bind, Sem.run_pure, Result.andThen_ok]) ?_
   cases t
   · exact aM b eE av
   · exact aM a bf h2
 · cases hc
theorem aai (aa : bb C fid G H w) (aM : fh C fid vars G w ag ρ) {x : Operand} (ho : o.op = .nilCheck x) (hc : C.cI vars pos o.op = some c7) (he : step ag H low c7 = some (v, H', low')) :
  dh C fid G H w low ((execOp ρ o).run C.P w) v H' low' := by
 rw [ho] at hc
 obtain ⟨cv, hx, rfl⟩ := cD.1 hc
 have af := aM x cv hx
 simp only [step] at he
 split at he
 · rename_i l o' e
   simp only [aA, bw] at he
   obtain ⟨rfl, rfl, rfl⟩ := he
   rw [e] at af
   obtain ⟨h0, hb, ht, ed⟩ := af.nB
   exact .same aa (x := ρ x) (by unfold execOp; rw [ho]; simp only [ed]; rfl) af
 · rename_i l es i f tag e
   simp only [aA, bw] at he
   obtain ⟨rfl, rfl, rfl⟩ := he
   rw [e] at af
   obtain ⟨h0, a, hb, hle, ao, ed⟩ := af.BS
   exact .same aa (x := ρ x) (by unfold execOp; rw [ho]; simp only [ed]; rfl) af
 · rename_i vs f e
   simp only [aA, bw] at he
   obtain ⟨rfl, rfl, rfl⟩ := he
   rw [e] at af
   obtain ⟨b, o', vals, aZ, hc, hr, ed⟩ := af.Ku
   exact .same aa (x := ρ x) (by unfold execOp; rw [ho]; simp only [ed]; rfl) af
 · rename_i i a b e
   simp only [aA, bw] at he
   obtain ⟨rfl, rfl, rfl⟩ := he
   rw [e] at af
   obtain ⟨xs, cN, ae, hc, ed⟩ := af.zI
   exact .same aa (x := ρ x) (by unfold execOp; rw [ho]; simp only [ed]; rfl) af
 · cases he
theorem aaj (aa : bb C fid G H w) (aM : fh C fid vars G w ag ρ) {op : UnOp} {t : TypeId} {x : Operand} (ho : o.op = .unOp op t x) (hc : C.cI vars pos o.op = some c7) (he : step ag H low c7 = some (v, H', low')) :
  dh C fid G H w low ((execOp ρ o).run C.P w) v H' low' := by
 rw [ho] at hc
 obtain ⟨cv, hx, rfl⟩ := cD.1 hc
 have af := aM x cv hx
 simp only [step] at he
 obtain ⟨u, hu, he⟩ := cD.1 he
 simp only [bw] at he
 obtain ⟨rfl, rfl, rfl⟩ := he
 unfold o4 at hu
 split at hu
 · rename_i k n e
   simp only [aA] at hu; subst hu
   rw [e] at af
   exact .same aa (x := .int k (k.wrap (0 - n))) (by unfold execOp; rw [ho]; simp only [af.jm, Op.unary, Op.intArith, Sem.run_bind, Sem.run_pure, Result.andThen_ok]) (.p _ _ (.int _ _))
 · rename_i b e
   simp only [aA] at hu; subst hu
   rw [e] at af
   exact .same aa (x := .bool !b) (by unfold execOp; rw [ho]; simp only [af.j1, Op.unary, Sem.run_bind, Sem.run_pure, Result.andThen_ok]) (.p _ _ (.bool _))
 · cases hu
theorem aak (aa : bb C fid G H w) (aM : fh C fid vars G w ag ρ) {s d : TypeId} {x : Operand} (ho : o.op = .convert s d x) (hnb : ∀ x, c7 ≠ .tn x) (hc : C.cI vars pos o.op = some c7) (he : step ag H low c7 = some (v, H', low')) :
  dh C fid G H w low ((execOp ρ o).run C.P w) v H' low' := by
 rw [ho] at hc
 simp only [Ctx.cI] at hc
 split at hc
 · rename_i k0 k cv h1 h2 av
   simp only [aA] at hc; subst hc
   have af := aM x cv av
   simp only [step] at he
   split at he
   · rename_i bs n e
     simp only [aA, bw] at he
     obtain ⟨rfl, rfl, rfl⟩ := he
     rw [e] at af
     exact .same aa (x := .int k (k.wrap n)) (by unfold execOp; rw [ho]; simp only [af.jm, convert, Sem.run_bind, run_underlying h1, run_underlying h2, Result.andThen_ok, Conv.intToInt, Sem.run_pure]) (.p _ _ (.int _ _))
   · cases he
 · split at hc
   · simp only [aA] at hc; exact absurd hc.symm (hnb _)
   · cases hc
 · cases hc
theorem aal (aa : bb C fid G H w) (aM : fh C fid vars G w ag ρ) {t : TypeId} {x : Operand} (ho : o.op = .makeInterface t x) (hc : C.cI vars pos o.op = some c7) (he : step ag H low c7 = some (v, H', low')) :
  dh C fid G H w low ((execOp ρ o).run C.P w) v H' low' := by
 rw [ho] at hc
 simp only [Ctx.cI] at hc
 split at hc
 · cases hc
 · rename_i d cv bA h1 h2
   simp only [aA] at hc; subst hc
   have af := aM x cv h2
   simp only [step] at he
   split at he
   · rename_i v1 H1 b0 ae
     simp only [aA, bw] at he
     obtain ⟨rfl, rfl, rfl⟩ := he
     obtain ⟨ax, f1, cn⟩ := FD aa af ae
     refine dh.zH f1 (dh.same f1.rel (x := .iface t (ρ x)) ?_ (.iface _ _ _ cn))
     unfold execOp; rw [ho]
     simp only [Instr.makeInterface, Sem.run_bind, run_underlying h1, Result.andThen_ok]
     cases d <;> first | rfl | (exfalso; exact bA _ h1)
   · cases he
 · cases hc
theorem FH (aM : fh C fid vars G w ag ρ) : ∀ {xs : List Operand} {Ky : List aj}, dH (C.bV vars) xs = some Ky -> a6 fid G w (Ky.map ag) (xs.map ρ)
 | [], _, h => by simp only [dH, aA] at h; subst h; exact .nil
 | x :: xs, _, h => by
   simp only [dH] at h
   split at h
   · rename_i cv hx
     split at h
     · rename_i Ky eJ
       simp only [aA] at h; subst h
       exact .cons _ _ _ _ (aM x cv hx) (FH aM eJ)
     · cases h
   · cases h
theorem aam (bx : eR C fid) (aa : bb C fid G H w) (aM : fh C fid vars G w ag ρ) {f : Fn} {a b : Array Operand} (ho : o.op = .makeFunc f a b) (hc : C.cI vars pos o.op = some c7) (he : step ag H low c7 = some (v, H', low')) :
  dh C fid G H w low ((execOp ρ o).run C.P w) v H' low' := by
 rw [ho] at hc
 cases f with
 | func f =>
   simp only [Ctx.cI] at hc
   split at hc
   · rename_i i bf eE h1 h2 av
     simp only [aA] at hc; subst hc
     simp only [step, aA, bw] at he
     obtain ⟨rfl, rfl, rfl⟩ := he
     refine .same aa (x := .func (.func f) (a.map ρ) (b.map ρ)) (by unfold execOp; rw [ho]; rfl) ?_
     have e := bx.f f i h1
     subst e
     have := bg.fn (fid := fid) i _ _ _ _ (FH aM h2) (FH aM av)
     have ah : a.map ρ = ⟨a.toList.map ρ⟩ := by rw [<- Array.toList_map]
     have e2 : b.map ρ = ⟨b.toList.map ρ⟩ := by rw [<- Array.toList_map]
     rw [ah, e2]; exact this
   · cases hc
 | _ => simp [Ctx.cI] at hc
theorem aan (aa : bb C fid G H w) (aM : fh C fid vars G w ag ρ) {x : Operand} {i : Nat} (ho : o.op = .extract x i) (hc : C.cI vars pos o.op = some c7) (he : step ag H low c7 = some (v, H', low')) :
  dh C fid G H w low ((execOp ρ o).run C.P w) v H' low' := by
 rw [ho] at hc
 obtain ⟨cv, hx, rfl⟩ := cD.1 hc
 have af := aM x cv hx
 simp only [step] at he
 split at he
 · rename_i vs e
   obtain ⟨u, hu, he⟩ := cD.1 he
   simp only [bw] at he
   obtain ⟨rfl, rfl, rfl⟩ := he
   rw [e] at af
   obtain ⟨vals, ed, hr⟩ := af.Km
   obtain ⟨y, hy, fg⟩ := hr.get hu
   exact .same aa (x := y) (by unfold execOp; rw [ho]; simp only [ed, Instr.extract, te, hy, Sem.run_bind, Sem.run_pure, Result.andThen_ok]) fg
 · cases he
theorem aao (aa : bb C fid G H w) (aM : fh C fid vars G w ag ρ) {s : TypeId} {x : Operand} {f : Nat} (ho : o.op = .field s x f) (hc : C.cI vars pos o.op = some c7) (he : step ag H low c7 = some (v, H', low')) :
  dh C fid G H w low ((execOp ρ o).run C.P w) v H' low' := by
 rw [ho] at hc
 simp only [Ctx.cI] at hc
 split at hc
 · rename_i fs cv h1 h2
   split at hc
   · rename_i a8 av
     obtain ⟨sh, bc, rfl⟩ := cD.1 hc
     have af := aM x cv h2
     simp only [step] at he
     split at he
     · rename_i vs e
       obtain ⟨u, hu, he⟩ := cD.1 he
       simp only [bw] at he
       obtain ⟨rfl, rfl, rfl⟩ := he
       rw [e] at af
       obtain ⟨vals, ed, hr⟩ := af.BO
       have ai := hr.hJ hu
       rcases QH bc with ⟨n, rfl, ao, hs⟩ | ⟨rfl, ao⟩
       · refine .same aa (x := .agg ⟨(vals.drop a8.offset).take n⟩) ?_ ai.2
         unfold execOp; rw [ho]
         simp only [ed, Instr.field, Sem.run_bind, run_underlying h1, Result.andThen_ok, av, asAgg, Sem.run_pure, part, ao, hs, if_true]
         congr 3
         apply Array.ext'
         simp
       · obtain ⟨y, hy, fg⟩ := ai
         refine .same aa (x := y) ?_ fg
         unfold execOp; rw [ho]
         simp only [ed, Instr.field, Sem.run_bind, run_underlying h1, Result.andThen_ok, av, asAgg, Sem.run_pure, part, ao, gX, if_false, te, hy]
     · cases he
   · cases hc
 · cases hc
theorem aap (aa : bb C fid G H w) (aM : fh C fid vars G w ag ρ) {s : TypeId} {x : Operand} {f : Nat} (ho : o.op = .fieldAddr s x f) (hc : C.cI vars pos o.op = some c7) (he : step ag H low c7 = some (v, H', low')) :
  dh C fid G H w low ((execOp ρ o).run C.P w) v H' low' := by
 rw [ho] at hc
 simp only [Ctx.cI] at hc
 split at hc
 · rename_i fs cv h1 h2
   split at hc
   · rename_i a8 av
     split at hc
     · rename_i n bc
       split at hc
       · cases hc
       · rename_i hn
         simp only [aA] at hc; subst hc
         have af := aM x cv h2
         have cf : ∀ a, ρ x = .pointer (some a) -> (execOp ρ o).run C.P w = .ok (.value (.pointer (some (a.add a8.offset)))) w := by
          intro a ao
          simp only [Ctx.sizeOf, cD] at bc
          obtain ⟨i, hi, rfl⟩ := bc
          unfold execOp; rw [ho]
          simp only [ao, Instr.fieldAt, Sem.run_bind, run_underlying h1, Result.andThen_ok, av, Instr.sureAddr, Sem.run_pure, fieldPlace, sizeOf, run_typeInfo (P := C.P) w hi, hn, if_false]
         simp only [step] at he
         split at he
         · rename_i l o' e
           simp only [aA, bw] at he
           obtain ⟨rfl, rfl, rfl⟩ := he
           rw [e] at af
           obtain ⟨h0, hb, ht, ed⟩ := af.nB
           refine .same aa (cf _ ed) ?_
           rw [Addr.add_lit]; exact .ptr l _ h0 hb ht
         · rename_i l es i k7 tag e
           simp only [aA, bw] at he
           obtain ⟨rfl, rfl, rfl⟩ := he
           rw [e] at af
           obtain ⟨h0, a, hb, hle, ao, ed⟩ := af.BS
           refine .same aa (cf _ ed) (.gw l es i _ tag h0 _ hb hle (fun ht => ?_))
           rw [ao ht, Addr.add_lit, p4]
         · rename_i vs k7 e
           simp only [aA, bw] at he
           obtain ⟨rfl, rfl, rfl⟩ := he
           rw [e] at af
           obtain ⟨b, o', vals, aZ, hc, hr, ed⟩ := af.Ku
           refine .same aa (cf _ ed) ?_
           rw [Addr.add_lit, p4]
           exact .dB vs _ b o' vals aZ hc hr
         · cases he
     · cases hc
   · cases hc
 · cases hc
theorem aaq (aa : bb C fid G H w) (aM : fh C fid vars G w ag ρ) {t : TypeId} {a : Operand} (ho : o.op = .load t a) (hc : C.cI vars pos o.op = some c7) (he : step ag H low c7 = some (v, H', low')) :
  dh C fid G H w low ((execOp ρ o).run C.P w) v H' low' := by
 rw [ho] at hc
 simp only [Ctx.cI] at hc
 split at hc
 · rename_i sh cv h1 h2
   simp only [aA] at hc; subst hc
   simp only [step] at he
   obtain ⟨u, hu, he⟩ := cD.1 he
   simp only [bw] at he
   obtain ⟨rfl, rfl, rfl⟩ := he
   obtain ⟨y, hy, fg⟩ := QI aa h1 (aM a cv h2) hu
   exact .same aa (x := y) (by unfold execOp; rw [ho]; simp only [Sem.run_bind, hy, Result.andThen_ok, Sem.run_pure]) fg
 · cases hc
theorem aar (aa : bb C fid G H w) (aM : fh C fid vars G w ag ρ) {t : TypeId} {a x : Operand} (ho : o.op = .store t a x) (hc : C.cI vars pos o.op = some c7) (ix : low <= H.length) (he : step ag H low c7 = some (v, H', low')) :
  dh C fid G H w low ((execOp ρ o).run C.P w) v H' low' := by
 rw [ho] at hc
 simp only [Ctx.cI] at hc
 split at hc
 · rename_i n cv iU h1 h2 av
   simp only [aA] at hc; subst hc
   simp only [step] at he
   obtain ⟨⟨H1, l⟩, hu, he⟩ := cD.1 he
   simp only [bw] at he
   obtain ⟨rfl, rfl, rfl⟩ := he
   obtain ⟨aC, ax, cf, bG, ah, hl, hlen⟩ := aad aa h1 (aM a cv h2) (aM x iU av) hu
   exact ⟨undef, aC, ax, .inr ⟨by unfold execOp; rw [ho]; simp only [Sem.run_bind, cf, Result.andThen_ok, Sem.run_pure], rfl⟩, bG, fun m hm => ah.le (c4 hm (asU _ _)) (aK _), .undef _, jA _ _, Nat.le_of_eq hlen.symm⟩
 · cases hc
theorem aas (aa : bb C fid G H w) {t : TypeId} (ho : o.op = .alloc t) (hc : C.cI vars pos o.op = some c7) (he : step ag H low c7 = some (v, H', low')) :
  dh C fid G H w low ((execOp ρ o).run C.P w) v H' low' := by
 rw [ho] at hc
 obtain ⟨z, aP, rfl⟩ := cD.1 hc
 simp only [step, aA, bw] at he
 obtain ⟨rfl, rfl, rfl⟩ := he
 unfold Ctx.zeroCells at aP
 split at aP
 · rename_i i hi
   split at aP
   · rename_i cF zK
     split at aP
     · rename_i vs cO
       split at aP
       · simp only [aA] at aP; subst aP
         refine .alloc aa 0 0 (x := .pointer (some ⟨w.heap.size, 0, none⟩)) (aT := .cells cF.cells t) ?_ ⟨rfl, rfl, cF.cells, t, oe _ _, ?_⟩ (.ptr _ _ ⟨w.heap.size, 0, 0, false⟩ (de _ _ _) rfl)
         · unfold execOp; rw [ho]
           simp only [Instr.alloc, zeroValue, Sem.run_bind, run_typeInfo (P := C.P) w hi, Result.andThen_ok, zK, Sem.run_pure, newVar, newRow, run_newObj, World.alloc_eq]
         · exact c6.od (FF _ cO)
       · cases aP
     · cases aP
   · cases aP
 · cases aP
theorem aat (aa : bb C fid G H w) (aM : fh C fid vars G w ag ρ) {t : TypeId} {x : Operand} (ho : o.op = .box t x) (hc : C.cI vars pos o.op = some c7) (he : step ag H low c7 = some (v, H', low')) :
  dh C fid G H w low ((execOp ρ o).run C.P w) v H' low' := by
 rw [ho] at hc
 obtain ⟨cv, hx, rfl⟩ := cD.1 hc
 simp only [step] at he
 split at he
 · rename_i bd
   simp only [aA, bw] at he
   obtain ⟨rfl, rfl, rfl⟩ := he
   have af := aM x cv hx
   refine .alloc aa 0 0 (x := .pointer (some ⟨w.heap.size, 0, none⟩)) (aT := .cells (ρ x).cells t) ?_ ⟨rfl, rfl, (ρ x).cells, t, oe _ _, ?_⟩ (.ptr _ _ ⟨w.heap.size, 0, 0, false⟩ (de _ _ _) rfl)
   · unfold execOp; rw [ho]
     simp only [Instr.box, Sem.run_bind, Sem.run_pure, Result.andThen_ok, newVar, newRow, run_newObj, World.alloc_eq]
   · exact (zJ af bd).1.ext aa (Ext.push aa _ 0 0 0)
 · cases he
theorem aau (aa : bb C fid G H w) {t : TypeId} {r : Option Operand} (ho : o.op = .makeMap t r) (hc : C.cI vars pos o.op = some c7) (he : step ag H low c7 = some (v, H', low')) :
  dh C fid G H w low ((execOp ρ o).run C.P w) v H' low' := by
 rw [ho] at hc
 cases r with
 | some _ => simp [Ctx.cI] at hc
 | none =>
   simp only [Ctx.cI, aA] at hc; subst hc
   simp only [step, aA, bw] at he
   obtain ⟨rfl, rfl, rfl⟩ := he
   refine .alloc aa 0 0 (x := .map (some w.heap.size)) (aT := .map #[] 0) ?_ ⟨rfl, rfl, #[], 0, oe _ _, .nil, .nil, ⟨fun x hx => by simp at hx, by simp⟩⟩ (.map _ ⟨w.heap.size, 0, 0, false⟩ (de _ _ _) rfl)
   unfold execOp; rw [ho]
   simp only [Instr.makeMap, Sem.run_bind, Sem.run_pure, Result.andThen_ok, run_newObj, World.alloc_eq, w1]
theorem Kz {u : V} {n : Nat} (h : jW u = some n) : ∃ k m, u = .int k m /\ 0 <= m /\ m.toNat = n := by
 unfold jW at h
 split at h
 · split at h
   · simp only [aA] at h
     exact ⟨_, _, rfl, by assumption, h⟩
   · cases h
 · cases h
theorem aav (aa : bb C fid G H w) (aM : fh C fid vars G w ag ρ) {t : TypeId} {x i : Operand} (ho : o.op = .index t x i) (hc : C.cI vars pos o.op = some c7) (he : step ag H low c7 = some (v, H', low')) :
  dh C fid G H w low ((execOp ρ o).run C.P w) v H' low' := by
 rw [ho] at hc
 simp only [Ctx.cI] at hc
 split at hc
 · rename_i cv iU h1 h2 av
   simp only [aA] at hc; subst hc
   simp only [step] at he
   split at he
   · rename_i s n ah e2
     obtain ⟨c, tG, he⟩ := cD.1 he
     simp only [bw] at he
     obtain ⟨rfl, rfl, rfl⟩ := he
     obtain ⟨k, m, b5, hm, hn⟩ := Kz e2
     have hx := aM x cv h2
     have hi := aM i iU av
     rw [ah] at hx; rw [b5] at hi
     refine .same aa (x := .int .u8 c.toNat) ?_ (.p _ _ (.int _ _))
     unfold execOp; rw [ho]
     have vw : (⟨⟨s⟩⟩ : ByteArray)[m.toNat]? = some c := by
      rw [hn]
      obtain ⟨aH, bD⟩ := fy.1 tG
      have : n < (⟨⟨s⟩⟩ : ByteArray).size := aH
      rw [getElem?_pos (c := (⟨⟨s⟩⟩ : ByteArray)) (i := n) (h := this)]
      congr 1
     simp only [hx.og, hi.jm, Instr.index, asIntOf, Sem.run_bind, Sem.run_pure, Result.andThen_ok, run_underlying h1, hm, if_true, vw]
   · cases he
 · cases hc
end Go.Abs
