/- Texts of this claim, joined and written short by a program. -/
import Derived.Test.YtjgngmpmjbkbpaaGreatDoorP02
import Derived.Laws.Cells
import Derived.Test.YtjgngmpmjbkbpaaGreatDoorP00
set_option linter.unusedVariables false
set_option linter.unusedSimpArgs false
set_option linter.unusedSectionVars false
namespace Go.Abs
open Go
variable {C : Ctx} {fid : Nat -> Nat} {w w' : World} {G G' : bT} {H : Heap}
def cg (β : Nat -> Option Home) (l : Nat) (h : Home) : Nat -> Option Home := fun x => if x = l then some h else β x
theorem de (β : Nat -> Option Home) (l : Nat) (h : Home) : cg β l h l = some h := by simp [cg]
theorem dp {β : Nat -> Option Home} {l x : Nat} {h : Home} (hx : x ≠ l) : cg β l h x = β x := by simp [cg, hx]
theorem bb.lt (aa : bb C fid G H w) {l : Nat} {h : Home} (hb : G.β l = some h) : l < H.length := by
 obtain ⟨o, ho, -⟩ := aa.obj l h hb
 rcases gg l H.length with h' | h'
 · exact h'
 · simp [mF h'] at ho
theorem bb.none (aa : bb C fid G H w) {l : Nat} (hl : H.length <= l) : G.β l = none := by
 cases hb : G.β l with
 | none => rfl
 | some h => exact absurd (aa.lt hb) (by omega)
theorem alloc_old {o : Obj} {b : Nat} (hb : b < w.heap.size) : (w.alloc o).heap[b]? = w.heap[b]? := by
 show (w.heap.push o)[b]? = _
 rw [Array.getElem?_push, if_neg (by omega)]
theorem oe (w : World) (o : Obj) : (w.alloc o).heap[w.heap.size]? = some o := by
 show (w.heap.push o)[_]? = _
 simp
theorem zC {l : Nat} (hn : G.β l = none) (h : Home) : k9 G.β (cg G.β l h) := fun x h0 hb => by
 have : x ≠ l := fun e => by subst e; rw [hn] at hb; cases hb
 exact ⟨h0, by rw [dp this]; exact hb, aK _, id, fun _ => ⟨rfl, rfl⟩, fun _ => rfl⟩
theorem bb.la (aa : bb C fid G H w) (h : w'.heap = w.heap) : bb C fid G H w' where
 obj l x hb := by
  obtain ⟨o, ho, hr⟩ := aa.obj l x hb
  exact ⟨o, ho, hr.mono (.refl _) (fun b hb => ⟨hb, by rw [h]⟩) (by rw [h])⟩
 inj := aa.inj
 blk l x hb := by rw [h]; exact aa.blk l x hb
 cX b hb := by rw [h]; exact aa.cX b hb
 jY := aa.jY
 e6 b o bt := by rw [h]; exact aa.e6 b o bt
theorem Ext.la (h : w'.heap = w.heap) (ho : w'.os = w.os) (hp : w'.output = w.output) (m n : Nat) : Ext G w G w' m n :=
 ⟨by rw [h]; exact aK _, ho, hp, fun _ _ _ => by rw [h], .refl _, fun _ h hb => .inl ⟨h, hb, .inl rfl⟩, fun _ h => h, fun _ h => .inl h⟩
theorem bb.push (aa : bb C fid G H w) (o : cE) (aT : Obj) (tag ff : Nat)
  (ho : iT C fid ⟨cg G.β H.length ⟨w.heap.size, tag, ff, false⟩, G.I⟩ (w.alloc aT) ⟨w.heap.size, tag, ff, false⟩ o) :
  bb C fid ⟨cg G.β H.length ⟨w.heap.size, tag, ff, false⟩, G.I⟩ (H ++ [o]) (w.alloc aT) := by
 have hn := aa.none (aK H.length)
 have hle := zC hn ⟨w.heap.size, tag, ff, false⟩
 refine ⟨fun l h hb => ?_, fun l fp h h' e e' q => ?_, fun l h hb => ?_, fun b hb => ?_, fun l h hb ae => ?_, fun b o bt => ⟨(aa.e6 b o bt).1, by rw [alloc_old (aa.cX b (aa.e6 b o bt).1).1]; exact (aa.e6 b o bt).2⟩⟩
 · by_cases hl : l = H.length
   · subst hl
     simp only [de] at hb; cases hb
     exact ⟨o, by simp, ho⟩
   · simp only [dp hl] at hb
     obtain ⟨o', e', hr⟩ := aa.obj l h hb
     have := aa.lt hb
     refine ⟨o', by rw [hq this]; exact e', hr.mono (G' := ⟨cg G.β H.length _, G.I⟩) hle (fun b hb => ⟨hb, alloc_old (aa.cX b hb).1⟩) (alloc_old (aa.blk l h hb))⟩
 · by_cases hl : l = H.length <;> by_cases mJ : fp = H.length
   · rw [hl, mJ]
   · subst hl; simp only [de] at e; cases e
     simp only [dp mJ] at e'
     have := aa.blk fp h' e'; simp only at q; omega
   · subst mJ; simp only [de] at e'; cases e'
     simp only [dp hl] at e
     have := aa.blk l h e; simp only at q; omega
   · simp only [dp hl] at e; simp only [dp mJ] at e'
     exact aa.inj l fp h h' e e' q
 · rw [World.size_alloc]
   by_cases hl : l = H.length
   · subst hl; simp only [de] at hb; cases hb; simp
   · simp only [dp hl] at hb; have := aa.blk l h hb; omega
 · have hi := aa.cX b hb
   refine ⟨by rw [World.size_alloc]; omega, fun l h e q => ?_⟩
   by_cases hl : l = H.length
   · subst hl; simp only [de] at e; cases e; simp only at q; omega
   · simp only [dp hl] at e; exact hi.2 l h e q
 · by_cases hl : l = H.length
   · subst hl; simp only [de] at hb; cases hb; cases ae
   · simp only [dp hl] at hb; exact aa.jY l h hb ae
theorem Ext.push (aa : bb C fid G H w) (aT : Obj) (tag ff m : Nat) :
  Ext G w ⟨cg G.β H.length ⟨w.heap.size, tag, ff, false⟩, G.I⟩ (w.alloc aT) m H.length where
 size := by simp
 os := rfl
 output := rfl
 ei b hb _ := alloc_old hb
 homes := zC (aa.none (aK _)) _
 mI l h hb := by
  by_cases hl : l = H.length
  · subst hl; simp only [de] at hb; cases hb; exact .inr ⟨aK _, aK _⟩
  · simp only [dp hl] at hb; exact .inl ⟨h, hb, .inl rfl⟩
 cX _ h := h
 ny _ h := .inl h
theorem bb.write (aa : bb C fid G H w) {l : Nat} {h h' : Home} (hb : G.β l = some h) (ae : h.dW = false) (h3 : h'.b = h.b) (Ki : h'.dW = false)
  (fK : h.tag <= h'.tag) (aP : h.tag = 0 -> h'.tag = 0) (fA : h'.ff = h.ff) (hs : w'.heap.size = w.heap.size)
  (BN : ∀ b, b ≠ h.b -> w'.heap[b]? = w.heap[b]?) (o : cE) (ho : iT C fid ⟨cg G.β l h', G.I⟩ w' h' o) :
  bb C fid ⟨cg G.β l h', G.I⟩ (H.set l o) w' := by
 have aH := aa.lt hb
 have Kj : ∀ b, G.I b -> b ≠ h.b := fun b hi e => by have := (aa.cX b hi).2 l h hb e.symm; rw [ae] at this; cases this
 have hle : k9 G.β (cg G.β l h') := fun x h0 e => by
  by_cases hx : x = l
  · subst hx; rw [hb] at e; cases e
    exact ⟨h', de _ _ _, fK, aP, fun _ => ⟨h3, fA⟩, fun q => by rw [ae] at q; cases q⟩
  · exact ⟨h0, by rw [dp hx]; exact e, aK _, id, fun _ => ⟨rfl, rfl⟩, fun _ => rfl⟩
 refine ⟨fun x h0 e => ?_, fun x y h1 h2 ah e2 q => ?_, fun x h0 e => ?_, fun b hi => ?_, fun x h0 e q => ?_, fun b o bt => ⟨(aa.e6 b o bt).1, by rw [BN b (Kj b (aa.e6 b o bt).1)]; exact (aa.e6 b o bt).2⟩⟩
 · by_cases hx : x = l
   · subst hx; simp only [de] at e; cases e
     exact ⟨o, by simp [aH], ho⟩
   · simp only [dp hx] at e
     obtain ⟨o', e', hr⟩ := aa.obj x h0 e
     have bA : h0.b ≠ h.b := fun q => hx (aa.inj x l h0 h e hb q)
     exact ⟨o', by rw [k4 (ki hx)]; exact e', hr.mono (G' := ⟨cg G.β l _, G.I⟩) hle (fun b hi => ⟨hi, BN b (Kj b hi)⟩) (BN _ bA)⟩
 · by_cases hx : x = l <;> by_cases hy : y = l
   · rw [hx, hy]
   · subst hx; simp only [de] at ah; cases ah; simp only [dp hy] at e2
     exact aa.inj x y h h2 hb e2 (h3 ▸ q)
   · subst hy; simp only [de] at e2; cases e2; simp only [dp hx] at ah
     exact aa.inj x y h1 h ah hb (h3 ▸ q)
   · simp only [dp hx] at ah; simp only [dp hy] at e2
     exact aa.inj x y h1 h2 ah e2 q
 · rw [hs]
   by_cases hx : x = l
   · subst hx; simp only [de] at e; cases e; rw [h3]; exact aa.blk x h hb
   · simp only [dp hx] at e; exact aa.blk x h0 e
 · refine ⟨by rw [hs]; exact (aa.cX b hi).1, fun x h0 e q => ?_⟩
   by_cases hx : x = l
   · subst hx; simp only [de] at e; cases e
     exact absurd (q.symm.trans h3) (Kj b hi)
   · simp only [dp hx] at e; exact (aa.cX b hi).2 x h0 e q
 · by_cases hx : x = l
   · subst hx; simp only [de] at e; cases e; rw [Ki] at q; cases q
   · simp only [dp hx] at e; exact aa.jY x h0 e q
theorem Ext.write (_hR : bb C fid G H w) {l : Nat} {h h' : Home} (hb : G.β l = some h) (ae : h.dW = false) (h3 : h'.b = h.b)
  (fK : h.tag <= h'.tag) (aP : h.tag = 0 -> h'.tag = 0) (fA : h'.ff = h.ff) (hs : w'.heap.size = w.heap.size)
  (BN : ∀ b, b ≠ h.b -> w'.heap[b]? = w.heap[b]?) (zD : w'.os = w.os) (hp : w'.output = w.output) :
  Ext G w ⟨cg G.β l h', G.I⟩ w' l H.length where
 size := by rw [hs]; exact aK _
 os := zD
 output := hp
 ei b _ k := BN b fun e => by
  rcases k l h hb e.symm with q | q
  · rw [ae] at q; cases q
  · omega
 homes x h0 e := by
  by_cases hx : x = l
  · subst hx; rw [hb] at e; cases e
    exact ⟨h', de _ _ _, fK, aP, fun _ => ⟨h3, fA⟩, fun q => by rw [ae] at q; cases q⟩
  · exact ⟨h0, by simp only [dp hx]; exact e, aK _, id, fun _ => ⟨rfl, rfl⟩, fun _ => rfl⟩
 mI x h0 e := by
  by_cases hx : x = l
  · subst hx; simp only [de] at e; cases e; exact .inl ⟨h, hb, .inl h3.symm⟩
  · simp only [dp hx] at e; exact .inl ⟨h0, e, .inl rfl⟩
 cX _ h := h
 ny _ h := .inl h
theorem bb.move (aa : bb C fid G H w) {l : Nat} {h : Home} (hb : G.β l = some h) (ae : h.dW = false) (aT : Obj) (tag ff : Nat) (fK : h.tag < tag) (aP : h.tag ≠ 0)
  (o : cE) (ho : iT C fid ⟨cg G.β l ⟨w.heap.size, tag, ff, false⟩, G.I⟩ (w.alloc aT) ⟨w.heap.size, tag, ff, false⟩ o) :
  bb C fid ⟨cg G.β l ⟨w.heap.size, tag, ff, false⟩, G.I⟩ (H.set l o) (w.alloc aT) /\ Ext G w ⟨cg G.β l ⟨w.heap.size, tag, ff, false⟩, G.I⟩ (w.alloc aT) l H.length := by
 have aH := aa.lt hb
 have hle : k9 G.β (cg G.β l ⟨w.heap.size, tag, ff, false⟩) := fun x h0 e => by
  by_cases hx : x = l
  · subst hx; rw [hb] at e; cases e
    exact ⟨_, de _ _ _, r7 fK, fun q => absurd q aP, fun q => by simp only at q; omega, fun q => by rw [ae] at q; cases q⟩
  · exact ⟨h0, by rw [dp hx]; exact e, aK _, id, fun _ => ⟨rfl, rfl⟩, fun _ => rfl⟩
 refine ⟨⟨fun x h0 e => ?_, fun x y h1 h2 ah e2 q => ?_, fun x h0 e => ?_, fun b hi => ?_, fun x h0 e q => ?_, fun b o bt => ⟨(aa.e6 b o bt).1, by rw [alloc_old (aa.cX b (aa.e6 b o bt).1).1]; exact (aa.e6 b o bt).2⟩⟩, ⟨by simp, rfl, rfl, fun b h3 _ => alloc_old h3, hle, fun x h0 e => ?_, fun _ h => h, fun _ h => .inl h⟩⟩
 · by_cases hx : x = l
   · subst hx; simp only [de] at e; cases e
     exact ⟨o, by simp [aH], ho⟩
   · simp only [dp hx] at e
     obtain ⟨o', e', hr⟩ := aa.obj x h0 e
     exact ⟨o', by rw [k4 (ki hx)]; exact e', hr.mono (G' := ⟨cg G.β l _, G.I⟩) hle (fun b hi => ⟨hi, alloc_old (aa.cX b hi).1⟩) (alloc_old (aa.blk x h0 e))⟩
 · by_cases hx : x = l <;> by_cases hy : y = l
   · rw [hx, hy]
   · subst hx; simp only [de] at ah; cases ah; simp only [dp hy] at e2
     have := aa.blk y h2 e2; simp only at q; omega
   · subst hy; simp only [de] at e2; cases e2; simp only [dp hx] at ah
     have := aa.blk x h1 ah; simp only at q; omega
   · simp only [dp hx] at ah; simp only [dp hy] at e2
     exact aa.inj x y h1 h2 ah e2 q
 · rw [World.size_alloc]
   by_cases hx : x = l
   · subst hx; simp only [de] at e; cases e; simp
   · simp only [dp hx] at e; have := aa.blk x h0 e; omega
 · refine ⟨by rw [World.size_alloc]; have := (aa.cX b hi).1; omega, fun x h0 e q => ?_⟩
   by_cases hx : x = l
   · subst hx; simp only [de] at e; cases e
     have := (aa.cX b hi).1; simp only at q; omega
   · simp only [dp hx] at e; exact (aa.cX b hi).2 x h0 e q
 · by_cases hx : x = l
   · subst hx; simp only [de] at e; cases e; cases q
   · simp only [dp hx] at e; exact aa.jY x h0 e q
 · by_cases hx : x = l
   · subst hx; simp only [de] at e; cases e; exact .inl ⟨h, hb, .inr (aK _)⟩
   · simp only [dp hx] at e; exact .inl ⟨h0, e, .inl rfl⟩
theorem xb {es : Nat} : ∀ {ds : List V}, (∀ d ∈ ds, (aG d).length = es) -> ∀ (n : Nat), (ds.drop n).flatMap aG = (ds.flatMap aG).drop (n * es)
 | ds, _, 0 => by simp
 | [], _, n + 1 => by simp
 | d :: ds, h, n + 1 => by
   have h1 := h d (by simp)
   rw [List.drop_succ_cons, xb (fun x hx => h x (by simp [hx])) n, kF, BD, Nat.add_comm, <- r6]
   congr 1
   rw [List.drop_left' h1]
theorem zE {es : Nat} : ∀ {ds : List V}, (∀ d ∈ ds, (aG d).length = es) -> ∀ (n : Nat), (ds.take n).flatMap aG = (ds.flatMap aG).take (n * es)
 | ds, _, 0 => by simp
 | [], _, n + 1 => by simp
 | d :: ds, h, n + 1 => by
   have h1 := h d (by simp)
   rw [List.take_succ_cons, kF, zE (fun x hx => h x (by simp [hx])) n, kF, BD, List.take_append, h1, JF (l := aG d) (by rw [h1]; exact Nat.le_add_left _ _), Nat.add_sub_cancel]
theorem mK {es : Nat} : ∀ {ds : List V}, (∀ d ∈ ds, (aG d).length = es) -> (ds.flatMap aG).length = ds.length * es
 | [], _ => by simp
 | d :: ds, h => by
   rw [kF, kg, mK (fun x hx => h x (by simp [hx])), h d (by simp), iv, BD, Nat.add_comm]
theorem zF : ∀ (a b : List V), ct (a ++ b) = (ct a && ct b)
 | [], b => by simp [ct]
 | v :: a, b => by simp [ct, zF a b, BB]
theorem ZY (v : V) (h : bO v = true) : ct (aG v) = true := by
 cases v <;> simp_all [aG, ct, bO]
theorem Kk : ∀ {ds : List V}, ct ds = true -> ct (ds.flatMap aG) = true
 | [], _ => by simp [ct]
 | d :: ds, h => by
   simp only [ct, cd] at h
   rw [kF, zF, ZY d h.1, Kk h.2]; rfl
theorem Qw : ∀ {ds : List V}, ct ds = true -> (∀ n, ct (ds.drop n) = true) /\ ∀ n, ct (ds.take n) = true := by
 intro ds h
 constructor
 · intro n
   have : ct (ds.take n ++ ds.drop n) = true := by rw [PA]; exact h
   rw [zF, cd] at this; exact this.2
 · intro n
   have : ct (ds.take n ++ ds.drop n) = true := by rw [PA]; exact h
   rw [zF, cd] at this; exact this.1
theorem Qx {b o : Nat} {c : Array Value} {e : TypeId} {f : Nat × Nat} (h : w.heap[b]? = some (.cells c e f)) : w.cell? ⟨b, o, none⟩ = c[o]? := by
 simp [World.cell?, h]
theorem asJ.xc {b : Nat} {c : Array Value} {e : TypeId} {f : Nat × Nat} {vals rest : List Value} (h : w.heap[b]? = some (.cells c e f)) (hc : c.toList = vals ++ rest) :
  asJ w b 0 vals := by
 intro j x hx
 rw [Qx h, eF, <- iK, hc, hq (by
  rcases gg j vals.length with q | q
  · exact q
  · simp [mF q] at hx)]
 exact hx
theorem asJ.drop {b o : Nat} {vals : List Value} (h : asJ w b o vals) (n : Nat) : asJ w b (o + n) (vals.drop n) := by
 intro j x hx
 rw [PG] at hx
 rw [p4]; exact h (n + j) x hx
theorem asJ.take {b o : Nat} {vals : List Value} (h : asJ w b o vals) (n : Nat) : asJ w b o (vals.take n) := by
 intro j x hx
 rw [JK] at hx
 split at hx
 · exact h j x hx
 · cases hx
theorem Kl {l es : Nat} {ds : List V} {h : Home} {dW : Bool} (ho : iT C fid G w h (.row es ds dW)) (aZ : G.I h.b) (hp : ct ds = true) {off len n cap : Nat} {a : Addr}
  (ao : a = ⟨h.b, off * es, none⟩ /\ n = len /\ (off + cap) * es <= h.ff /\ len <= cap) (hl : off + len <= ds.length) :
  fE w G.I (.list es ((ds.drop off).take len)) (.slice (some a) n cap) := by
 obtain ⟨-, -, -, -, hu, c, e, vals, rest, hc, -, af, hr⟩ := ho
 obtain ⟨rfl, rfl, -, hz⟩ := ao
 have hB := (((asJ.xc hc af).drop (off * es)).take (n * es))
 have mL : ∀ d ∈ ds.drop off, (aG d).length = es := fun d hd => hu d (E9 hd)
 have hlen : ((ds.drop off).take n).length = n := by simp; omega
 have key := fE.list (w := w) (I := G.I) es ((ds.drop off).take n) h.b (off * es) cap ((vals.drop (off * es)).take (n * es)) aZ (by simpa using hB)
  (fun d hd => mL d (Bv hd)) (by
    rw [zE mL, xb hu]
    exact ((hr.drop _).take _).o5 ((Qw ((Qw (Kk hp)).1 _)).2 _)) (by rw [hlen]; exact hz)
 rwa [hlen] at key
theorem Qy (aa : bb C fid G H w) {l es : Nat} {ds : List V} (eZ : H[l]? = some (.row es ds false)) {h : Home} (hb : G.β l = some h) :
  let G' : bT := ⟨cg G.β l { h with dW := true }, fun b => G.I b \/ b = h.b⟩
  bb C fid G' (H.set l (.row es ds true)) w /\ Ext G w G' w l H.length /\ iT C fid G' w { h with dW := true } (.row es ds true) := by
 intro G'
 obtain ⟨o, ho, hr⟩ := aa.obj l h hb
 rw [eZ] at ho; cases ho
 have ae : h.dW = false := hr.2.2.1
 have hle : k9 G.β G'.β := fun x h0 e => by
  by_cases hx : x = l
  · subst hx; rw [hb] at e; cases e
    exact ⟨_, de _ _ _, aK _, id, fun _ => ⟨rfl, rfl⟩, fun q => by rw [ae] at q; cases q⟩
  · exact ⟨h0, by show cg _ _ _ _ = _; rw [dp hx]; exact e, aK _, id, fun _ => ⟨rfl, rfl⟩, fun _ => rfl⟩
 have Qz : ∀ b, G.I b -> G'.I b /\ w.heap[b]? = w.heap[b]? := fun b hi => ⟨.inl hi, rfl⟩
 have aD : iT C fid G' w { h with dW := true } (.row es ds true) := by
  have := iT.mono (G' := G') hle Qz rfl hr
  exact ⟨this.1, this.2.1, rfl, this.2.2.2⟩
 refine ⟨⟨fun x h0 e => ?_, fun x y h1 h2 ah e2 q => ?_, fun x h0 e => ?_, fun b hi => ?_, fun x h0 e q => ?_, fun b o bt => ⟨.inl (aa.e6 b o bt).1, (aa.e6 b o bt).2⟩⟩, ⟨aK _, rfl, rfl, fun _ _ _ => rfl, hle, fun x h0 e => ?_, fun _ h => .inl h, fun b hi => ?_⟩, aD⟩
 · by_cases hx : x = l
   · subst hx; rw [show G'.β = cg _ _ _ from rfl, de] at e; cases e
     exact ⟨_, by simp [aa.lt hb], aD⟩
   · rw [show G'.β = cg _ _ _ from rfl, dp hx] at e
     obtain ⟨o', e', fT⟩ := aa.obj x h0 e
     exact ⟨o', by rw [k4 (ki hx)]; exact e', fT.mono hle Qz rfl⟩
 · have QA : ∀ z av, G'.β z = some av -> ∃ bc, G.β z = some bc /\ bc.b = av.b := fun z av e => by
    by_cases aP : z = l
    · subst aP; rw [show G'.β = cg _ _ _ from rfl, de] at e; cases e; exact ⟨h, hb, rfl⟩
    · rw [show G'.β = cg _ _ _ from rfl, dp aP] at e; exact ⟨av, e, rfl⟩
   obtain ⟨bc, cU, lb⟩ := QA x h1 ah
   obtain ⟨h5, ej, tD⟩ := QA y h2 e2
   exact aa.inj x y bc h5 cU ej (lb.trans (q.trans tD.symm))
 · by_cases hx : x = l
   · subst hx; rw [show G'.β = cg _ _ _ from rfl, de] at e; cases e; exact aa.blk x h hb
   · rw [show G'.β = cg _ _ _ from rfl, dp hx] at e; exact aa.blk x h0 e
 · rcases hi with hi | rfl
   · refine ⟨(aa.cX b hi).1, fun x h0 e q => ?_⟩
     by_cases hx : x = l
     · subst hx; rw [show G'.β = cg _ _ _ from rfl, de] at e; cases e; rfl
     · rw [show G'.β = cg _ _ _ from rfl, dp hx] at e; exact (aa.cX b hi).2 x h0 e q
   · refine ⟨aa.blk l h hb, fun x h0 e q => ?_⟩
     by_cases hx : x = l
     · subst hx; rw [show G'.β = cg _ _ _ from rfl, de] at e; cases e; rfl
     · rw [show G'.β = cg _ _ _ from rfl, dp hx] at e; exact absurd (aa.inj x l h0 h e hb q) hx
 · by_cases hx : x = l
   · subst hx; rw [show G'.β = cg _ _ _ from rfl, de] at e; cases e; exact .inr rfl
   · rw [show G'.β = cg _ _ _ from rfl, dp hx] at e; exact .inl (aa.jY x h0 e q)
 · by_cases hx : x = l
   · subst hx; rw [show G'.β = cg _ _ _ from rfl, de] at e; cases e; exact .inl ⟨h, hb, .inl rfl⟩
   · rw [show G'.β = cg _ _ _ from rfl, dp hx] at e; exact .inl ⟨h0, e, .inl rfl⟩
 · rcases hi with hi | rfl
   · exact .inl hi
   · exact .inr (.inr ⟨l, h, hb, rfl⟩)
structure kI (C : Ctx) (fid : Nat -> Nat) (G : bT) (H : Heap) (w : World) (low : Nat) (G' : bT) (H' : Heap) (low' : Nat) : Prop where
 rel : bb C fid G' H' w
 ext : ∀ m, m <= low' -> Ext G w G' w m H.length
 low : low' <= low
 len : H'.length = H.length
theorem kI.refl (aa : bb C fid G H w) (low : Nat) : kI C fid G H w low G H low := ⟨aa, fun _ _ => .refl _ _ _ _, aK _, rfl⟩
theorem kI.trans {xd QB : bT} {qV QC : Heap} {low xe QD : Nat} (h : kI C fid G H w low xd qV xe) (k : kI C fid xd qV w xe QB QC QD) : kI C fid G H w low QB QC QD :=
 ⟨k.rel, fun m hm => (h.ext m (c4 hm k.low)).trans ((k.ext m hm).le (aK _) (Nat.le_of_eq h.len.symm)), c4 k.low h.low, k.len.trans h.len⟩
theorem bb.swap (aa : bb C fid G H w) {l : Nat} {h : Home} (hb : G.β l = some h) {o : cE} (ho : iT C fid G w h o) : bb C fid G (H.set l o) w :=
 ⟨fun x h0 e => by
  by_cases hx : x = l
  · subst hx
    rw [hb] at e; cases e
    exact ⟨o, by simp [aa.lt hb], ho⟩
  · obtain ⟨o', e', fT⟩ := aa.obj x h0 e
    exact ⟨o', by rw [k4 (ki hx)]; exact e', fT⟩, aa.inj, aa.blk, aa.cX, aa.jY, aa.e6⟩
theorem bg.BO {vs : List V} {x : Value} (h : bg fid G w (.agg vs) x) : ∃ vals, x = .agg ⟨vals⟩ /\ a6 fid G w vs vals := by
 cases h with
 | p _ _ h => cases h with | agg _ vals hr => exact ⟨vals, rfl, hr.od⟩
 | agg _ vals hr => exact ⟨vals, rfl, hr⟩
theorem bg.Km {vs : List V} {x : Value} (h : bg fid G w (.ba vs) x) : ∃ vals, x = .tuple ⟨vals⟩ /\ a6 fid G w vs vals := by
 cases h with
 | p _ _ h => cases h with | ba _ vals hr => exact ⟨vals, rfl, hr.od⟩
 | ba _ vals hr => exact ⟨vals, rfl, hr⟩
structure BP (C : Ctx) (fid : Nat -> Nat) (w : World) (f : Heap -> Nat -> V -> Option (V × Heap × Nat)) : Prop where
 ok : ∀ {G : bT} {H H' : Heap} {low low' : Nat} {v v' : V} {x : Value}, bb C fid G H w -> bg fid G w v x -> f H low v = some (v', H', low') -> ∃ G', kI C fid G H w low G' H' low' /\ bg fid G' w v' x
structure FB (C : Ctx) (fid : Nat -> Nat) (w : World) (f : Heap -> Nat -> V -> Option (V × Heap × Nat)) : Prop where
 ok : ∀ {G : bT} {H H' : Heap} {low low' : Nat} {v v' : V} {dc : List Value}, bb C fid G H w -> a6 fid G w (aG v) dc -> f H low v = some (v', H', low') ->
  ∃ G', kI C fid G H w low G' H' low' /\ a6 fid G' w (aG v') dc /\ (aG v').length = (aG v).length
theorem FC {f : Heap -> Nat -> V -> Option (V × Heap × Nat)} (ae : BP C fid w f) : ∀ {vs vs' : List V} {xs : List Value} {G : bT} {H H' : Heap} {low low' : Nat}, bb C fid G H w -> a6 fid G w vs xs ->
  kj f H low vs = some (vs', H', low') -> ∃ G', kI C fid G H w low G' H' low' /\ a6 fid G' w vs' xs
 | [], _, _, G, H, H', low, low', aa, .nil, he => by
   simp only [kj, aA, bw] at he
   obtain ⟨rfl, rfl, rfl⟩ := he
   exact ⟨G, .refl aa _, .nil⟩
 | v :: r, _, _, G, H, H', low, low', aa, .cons _ x _ xs af hs, he => by
   simp only [kj] at he
   split at he
   · rename_i v1 H1 b0 h1
     split at he
     · rename_i ch H2 dv h2
       simp only [aA, bw] at he
       obtain ⟨rfl, rfl, rfl⟩ := he
       obtain ⟨ax, f1, cn⟩ := ae.ok aa af h1
       obtain ⟨bq, f2, dZ⟩ := FC ae f1.rel (hs.ext aa (f1.ext 0 (cx _))) h2
       exact ⟨bq, f1.trans f2, .cons _ _ _ _ (cn.ext f1.rel (f2.ext 0 (cx _))) dZ⟩
     · cases he
   · cases he
theorem QE {f : Heap -> Nat -> V -> Option (V × Heap × Nat)} (ae : FB C fid w f) : ∀ {vs vs' : List V} {xs : List Value} {G : bT} {H H' : Heap} {low low' : Nat}, bb C fid G H w -> a6 fid G w (vs.flatMap aG) xs ->
  kj f H low vs = some (vs', H', low') ->
  ∃ G', kI C fid G H w low G' H' low' /\ a6 fid G' w (vs'.flatMap aG) xs /\ vs'.length = vs.length /\ ∀ es, (∀ d ∈ vs, (aG d).length = es) -> ∀ d ∈ vs', (aG d).length = es
 | [], _, _, G, H, H', low, low', aa, h, he => by
   simp only [kj, aA, bw] at he
   obtain ⟨rfl, rfl, rfl⟩ := he
   exact ⟨G, .refl aa _, h, rfl, fun _ h => h⟩
 | v :: r, _, xs, G, H, H', low, low', aa, h, he => by
   simp only [kj] at he
   split at he
   · rename_i v1 H1 b0 h1
     split at he
     · rename_i ch H2 dv h2
       simp only [aA, bw] at he
       obtain ⟨rfl, rfl, rfl⟩ := he
       rw [kF] at h
       obtain ⟨cN, dc, rfl, hy, aP⟩ := h.split
       obtain ⟨ax, f1, cn, b2⟩ := ae.ok aa hy h1
       obtain ⟨bq, f2, dZ, jZ, o6⟩ := QE ae f1.rel (aP.ext aa (f1.ext 0 (cx _))) h2
       refine ⟨bq, f1.trans f2, ?_, by simp [jZ], fun es hu d hd => ?_⟩
       · rw [kF]; exact (cn.ext f1.rel (f2.ext 0 (cx _))).append dZ
       · rcases dS.1 hd with rfl | hd
         · rw [b2]; exact hu v (by simp)
         · exact o6 es (fun d hd => hu d (by simp [hd])) d hd
     · cases he
   · cases he
theorem FB.of {f : Heap -> Nat -> V -> Option (V × Heap × Nat)} (af : BP C fid w f)
  (sg : ∀ {H H' : Heap} {low low' : Nat} {v v' : V}, f H low v = some (v', H', low') -> (∀ vs, v ≠ .agg vs) -> aG v' = [v'])
  (Kn : ∀ {G : bT} {H H' : Heap} {low low' : Nat} {vs : List V} {v' : V} {dc : List Value}, bb C fid G H w -> a6 fid G w vs dc -> f H low (.agg vs) = some (v', H', low') ->
    ∃ G' vs', v' = .agg vs' /\ kI C fid G H w low G' H' low' /\ a6 fid G' w vs' dc) : FB C fid w f := by
 refine ⟨fun {G H H' low low' v v' dc} aa h he => ?_⟩
 by_cases ao : ∃ vs, v = .agg vs
 · obtain ⟨vs, rfl⟩ := ao
   obtain ⟨G', vs', rfl, f1, cn⟩ := Kn aa h he
   exact ⟨G', f1, cn, by have := cn.length; have := h.length; simp only [aG] at *; omega⟩
 · have tE : ∀ vs, v ≠ .agg vs := fun vs e => ao ⟨vs, e⟩
   have e : aG v = [v] := by cases v <;> first | rfl | (exfalso; exact tE _ rfl)
   rw [e] at h
   cases h with
   | cons _ x _ xs h hs =>
     cases hs
     obtain ⟨ax, f1, cn⟩ := af.ok aa h he
     rw [sg he tE, e]
     exact ⟨ax, f1, .cons _ _ _ _ cn .nil, rfl⟩
theorem ZZ {l es off len tag n cap : Nat} {a : Addr} {h : Home} {ds ds' : List V} {low : Nat} {c : Array Value} {e : TypeId} {vals rest : List Value} (ht : ds.length = tag) (hle : off + len <= ds.length)
  {xd : bT} {qV : Heap} {xe : Nat} {QF : List V} (hb : G.β l = some h) (fK : h.tag = tag) (ao : a = ⟨h.b, off * es, none⟩ /\ n = len /\ (off + cap) * es <= h.ff /\ len <= cap)
  (jE : 0 < ds.length) (fL : 0 < es) (hc : w.heap[h.b]? = some (.cells c e (0, 0))) (dP : h.ff = c.size) (kl : c.toList = vals ++ rest)
  (si : a6 fid xd w (ds'.flatMap aG) vals) (hlen : ds'.length = ds.length)
  (nz : ∀ d ∈ ds', (aG d).length = es) (ae : kI C fid G H w low xd qV xe)
  (Ko : qV[l]? = some (.row es QF false)) (Z0 : QF.length = tag) (hp : ct ds' = true) :
  ∃ G', kI C fid G H w low G' (qV.set l (.row es ds' true)) (min xe l) /\ bg fid G' w (.list es ((ds'.drop off).take len)) (.slice (some a) n cap) := by
 obtain ⟨h', h3, t1, -, m1, -⟩ := (ae.ext 0 (cx _)).homes l h hb
 obtain ⟨o', j0, fT⟩ := ae.rel.obj l h' h3
 rw [Ko] at j0; cases j0
 have QG : h'.tag = h.tag := by rw [fT.1, Z0, fK]
 obtain ⟨eb, BQ⟩ := m1 QG
 have aD : iT C fid xd w h' (.row es ds' false) :=
  ⟨by rw [QG, fK, <- ht, hlen], by omega, fT.2.2.1, fL, nz, c, e, vals, rest, by rw [eb]; exact hc, by rw [BQ]; exact dP, kl, si⟩
 have Z1 := ae.rel.swap h3 aD
 have aH : l < qV.length := by
  rcases gg l qV.length with q | q
  · exact q
  · rw [mF q] at Ko; cases Ko
 have Z2 : (qV.set l (.row es ds' false))[l]? = some (.row es ds' false) := by simp [aH]
 obtain ⟨h1, h2, av⟩ := Qy Z1 Z2 h3
 rw [List.set_set] at h1
 have dW : kI C fid xd qV w xe _ (qV.set l (.row es ds' true)) (min xe l) :=
  ⟨h1, fun m hm => h2.le (c4 hm (asU _ _)) (by simp), jA _ _, by simp⟩
 refine ⟨_, ae.trans dW, .p _ _ (Kl (l := l) av (.inr rfl) hp ?_ (by rw [hlen]; exact hle))⟩
 show a = ⟨h'.b, off * es, none⟩ /\ n = len /\ (off + cap) * es <= h'.ff /\ len <= cap
 rw [eb, BQ]; exact ao
theorem Kp : ∀ (n : Nat), BP C fid w (eg n) /\ FB C fid w (eg n)
 | 0 => by
   have af : BP C fid w (eg 0) := by
    refine ⟨fun {G H H' low low' v v' x} aa h he => ?_⟩
    simp only [eg] at he
    split at he
    · simp only [aA, bw] at he
      obtain ⟨rfl, rfl, rfl⟩ := he
      exact ⟨G, .refl aa _, h⟩
    · cases he
   refine ⟨af, .of af (fun {H H' low low' v v'} he tE => ?_) (fun {G H H' low low' vs v' dc} aa h he => ?_)⟩
   · simp only [eg] at he
     split at he
     · simp only [aA, bw] at he
       obtain ⟨rfl, -, -⟩ := he
       cases v <;> first | rfl | (exfalso; exact tE _ rfl)
     · cases he
   · simp only [eg] at he
     split at he
     · simp only [aA, bw] at he
       obtain ⟨rfl, rfl, rfl⟩ := he
       exact ⟨G, vs, rfl, .refl aa _, h⟩
     · cases he
 | n + 1 => by
   obtain ⟨Kq, Z3⟩ := Kp n
   have af : BP C fid w (eg (n + 1)) := by
    refine ⟨fun {G H H' low low' v v' x} aa h he => ?_⟩
    simp only [eg] at he
    split at he
    · simp only [aA, bw] at he
      obtain ⟨rfl, rfl, rfl⟩ := he
      exact ⟨G, .refl aa _, h⟩
    · split at he
      · rename_i vs
        split at he
        · rename_i vs' H1 b0 h1
          simp only [aA, bw] at he
          obtain ⟨rfl, rfl, rfl⟩ := he
          obtain ⟨vals, rfl, hr⟩ := h.BO
          obtain ⟨ax, f1, cn⟩ := FC Kq aa hr h1
          exact ⟨ax, f1, .agg _ _ cn⟩
        · cases he
      · rename_i vs
        split at he
        · rename_i vs' H1 b0 h1
          simp only [aA, bw] at he
          obtain ⟨rfl, rfl, rfl⟩ := he
          obtain ⟨vals, rfl, hr⟩ := h.Km
          obtain ⟨ax, f1, cn⟩ := FC Kq aa hr h1
          exact ⟨ax, f1, .ba _ _ cn⟩
        · cases he
      · rename_i l es off len tag _
        split at he
        · rename_i bC ds dW hl
          split at he
          · rename_i hc
            obtain ⟨rfl, ht, hle⟩ := hc
            split at he
            · rename_i hp
              simp only [aA, bw] at he
              obtain ⟨rfl, rfl, rfl⟩ := he
              cases h with
              | p _ _ h => cases h
              | cQ _ _ _ _ _ h a n cap hb Kr ao =>
                obtain ⟨o, ho, hr⟩ := aa.obj l h hb
                rw [hl] at ho; cases ho
                have fK : h.tag = tag := hr.1.trans ht
                cases dW with
                | true =>
                  exact ⟨G, .refl aa _, .p _ _ (Kl (l := l) hr (aa.jY l h hb hr.2.2.1) hp (ao fK) hle)⟩
                | false =>
                  obtain ⟨h1, h2, av⟩ := Qy aa hl hb
                  exact ⟨_, ⟨h1, fun m hm => h2.le (c4 hm (asU _ _)) (aK _), jA _ _, by simp⟩, .p _ _ (Kl (l := l) av (.inr rfl) hp (ao fK) hle)⟩
            · split at he
              · rename_i ds' H1 b0 h1
                split at he
                · rename_i PQ PR zG
                  split at he
                  · rename_i Z4
                    obtain ⟨rfl, nA, hp⟩ := Z4
                    simp only [aA, bw] at he
                    obtain ⟨rfl, rfl, rfl⟩ := he
                    cases h with
                    | p _ _ h => cases h
                    | cQ _ _ _ _ _ h a n cap hb Kr ao =>
                      obtain ⟨o, ho, hr⟩ := aa.obj l h hb
                      rw [hl] at ho; cases ho
                      have fK : h.tag = tag := hr.1.trans ht
                      obtain ⟨-, jE, -, fL, hu, c, e, vals, rest, hc, dP, kl, fg⟩ := hr
                      obtain ⟨ax, f1, cn, b2, kJ⟩ := QE Z3 aa fg h1
                      exact ZZ ht hle hb fK (ao fK) jE fL hc dP kl cn b2 (kJ _ hu) f1 zG nA hp
                  · cases he
                · cases he
              · cases he
          · cases he
        · cases he
      · simp only [aA, bw] at he
        obtain ⟨rfl, rfl, rfl⟩ := he
        exact ⟨G, .refl aa _, h⟩
   refine ⟨af, .of af (fun {H H' low low' v v'} he tE => ?_) (fun {G H H' low low' vs v' dc} aa h he => ?_)⟩
   · simp only [eg] at he
     repeat' split at he
     all_goals first
      | cases he; done
      | (simp only [aA, bw] at he; obtain ⟨rfl, -, -⟩ := he; first | rfl | (exfalso; exact tE _ rfl) | (cases v <;> first | rfl | (exfalso; exact tE _ rfl)))
   · simp only [eg] at he
     split at he
     · simp only [aA, bw] at he
       obtain ⟨rfl, rfl, rfl⟩ := he
       exact ⟨G, vs, rfl, .refl aa _, h⟩
     · split at he
       · rename_i vs' H1 b0 h1
         simp only [aA, bw] at he
         obtain ⟨rfl, rfl, rfl⟩ := he
         obtain ⟨ax, f1, cn⟩ := FC Kq aa h h1
         exact ⟨ax, vs', rfl, f1, cn⟩
       · cases he
theorem FD (aa : bb C fid G H w) {low low' : Nat} {v v' : V} {x : Value} {H' : Heap} (af : bg fid G w v x) (he : gl H low v = some (v', H', low')) :
 ∃ G', kI C fid G H w low G' H' low' /\ bg fid G' w v' x := (Kp 16).1.ok aa af he
theorem Z5 (aa : bb C fid G H w) {low low' : Nat} {v v' : V} {dc : List Value} {H' : Heap} (af : a6 fid G w (aG v) dc) (he : gl H low v = some (v', H', low')) :
 ∃ G', kI C fid G H w low G' H' low' /\ a6 fid G' w (aG v') dc /\ (aG v').length = (aG v).length := (Kp 16).2.ok aa af he
theorem Ks : ∀ {vs vs' : List V} {xs : List Value} {G : bT} {H H' : Heap} {low low' : Nat}, bb C fid G H w -> a6 fid G w vs xs -> fe H low vs = some (vs', H', low') ->
  ∃ G', kI C fid G H w low G' H' low' /\ a6 fid G' w vs' xs
 | [], _, _, G, H, H', low, low', aa, .nil, he => by
   simp only [fe, aA, bw] at he
   obtain ⟨rfl, rfl, rfl⟩ := he
   exact ⟨G, .refl aa _, .nil⟩
 | v :: r, _, _, G, H, H', low, low', aa, .cons _ x _ xs af hs, he => by
   simp only [fe] at he
   split at he
   · rename_i v1 H1 b0 h1
     split at he
     · rename_i ch H2 dv h2
       simp only [aA, bw] at he
       obtain ⟨rfl, rfl, rfl⟩ := he
       obtain ⟨ax, f1, cn⟩ := FD aa af h1
       obtain ⟨bq, f2, dZ⟩ := Ks f1.rel (hs.ext aa (f1.ext 0 (cx _))) h2
       exact ⟨bq, f1.trans f2, .cons _ _ _ _ (cn.ext f1.rel (f2.ext 0 (cx _))) dZ⟩
     · cases he
   · cases he
end Go.Abs
