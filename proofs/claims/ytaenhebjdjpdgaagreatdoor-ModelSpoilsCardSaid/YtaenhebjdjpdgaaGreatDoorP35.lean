/- Texts of this claim, joined and written short by a program. -/
import Derived.Test.YtaenhebjdjpdgaaGreatDoorP34
import Derived.Test.YtaenhebjdjpdgaaGreatDoorP01
import Derived.ChangeBears
import Derived.ChangeSlices
import Derived.SizedLaws
import Derived.Test.YtaenhebjdjpdgaaGreatDoorP00
set_option linter.unusedVariables false
set_option linter.unusedSimpArgs false
set_option linter.unusedSectionVars false
set_option maxRecDepth 100000
namespace Go.Abs.b1
open Go Go.Abs Go.Abs.Lex Go.Proofs
variable {g : Nat -> Option Obj}
theorem Pq {A : Type} {es : Nat} {f : A -> V} (ae : ∀ a b, f a = f b -> a = b) {x y : ak A} (h : bP es f x = bP es f y) : x = y := by
 cases x <;> cases y <;> simp only [bP, reduceCtorEq, V.list.injEq, true_and] at h <;> try rfl
 rename_i l m
 congr 1
 induction l generalizing m with
 | nil => cases m <;> simp_all
 | cons a l ih =>
   cases m with
   | nil => simp at h
   | cons b m =>
     simp only [eD, zp] at h
     rw [ae _ _ h.1, ih m h.2]
theorem aoi (a b : Int) (h : aI a = aI b) : a = b := by cases h; rfl
theorem aoj (a b : Table) (h : kU a = kU b) : a = b := by
 obtain ⟨al, a2, a3, ⟨a4, a5⟩, Bp⟩ := a
 obtain ⟨ec, gJ, ju, ⟨lb, tD⟩, Yr⟩ := b
 simp only [kU, V.agg.injEq, zp, V.str.injEq, V.int.injEq, true_and, and_true] at h
 obtain ⟨rfl, rfl, av, rfl, rfl, rfl⟩ := h
 rw [Pq aoi av]
theorem aok (a b : fN) (h : iF a = iF b) : a = b := by
 obtain ⟨al, a2, a3⟩ := a
 obtain ⟨ec, gJ, ju⟩ := b
 simp only [iF, V.agg.injEq, zp, V.int.injEq, true_and, and_true] at h
 obtain ⟨rfl, rfl, rfl⟩ := h
 rfl
def zh (j : dJ) : Bool := ya j.Model.Tables.l j.Model.bn.l
theorem aol {a b : dJ} (h : V.agg (jg a) = V.agg (jg b)) : zh a = zh b := by
 simp only [jg, V.agg.injEq, zp] at h
 unfold zh
 rw [Pq aoj h.2.1, Pq aok h.2.2.2.2.2.2.1]
noncomputable section
open Go.Abs.gB
def ou : List (bR bh) := []
theorem Pr : b6 (fW g) ou := fun _ h => by cases h
def Yx : List (bR bh) := ⟨46, [], [.v 0, .v 0], [1], fun c a => l4 a.1 a.2.1⟩ :: ou
theorem Yy : b6 (fW g) Yx := cA cy Pr [] (.two .o (.pu [4] .o)) (by kernel_rfl) fun c a => by kernel_rfl
def Yz : List (bR bh) := ⟨146, [], [.v 25, .f [24] 1], [0], fun c a => Vy a.1 a.2.1⟩ :: Yx
theorem aom : b6 (fW g) Yz := cA cy Yy [] (.two .o (.two (.two .o (.dj [(.s 8, .p 0)] [(.exit 0, []), (.ret, [(.s 4, .p 0)])] .o)) .o)) (by kernel_rfl) fun c a => by kernel_rfl
def aon : List (bR bh) := ⟨78, [], [.v 25, .f [24] 1], [1], fun c a => DX a.1 a.2.1⟩ :: Yz
theorem aoo : b6 (fW g) aon := cA cy aom [] .o (by kernel_rfl) fun c a => by kernel_rfl
end
open Classical in
noncomputable def Bt : List V -> Option V := fun args => if h : ∃ j, args = [.agg (jg j)] then some (.bool (zh h.choose)) else none
theorem aop (j : dJ) : Bt [.agg (jg j)] = some (.bool (zh j)) := by
 have h : ∃ tT, [V.agg (jg j)] = [.agg (jg tT)] := ⟨j, rfl⟩
 unfold Bt
 rw [dif_pos h]
 exact congrArg (fun b => some (V.bool b)) (aol (et h.choose_spec).1).symm
def Ps : Code -> Code | .block _ c => c | c => c
def aoq : Code -> Code | .loop c => c | c => c
noncomputable def Pt : Code := Tryz.f31.body.getD .skip
noncomputable def oT : Nat -> Code
 | 0 => Pt
 | n + 1 => cJ (oT n)
noncomputable def wT : Code := aoq (Ps (cJ (fX (oT 5))))
noncomputable def aor : Code := .seq (fX Pt) (.seq (fX (oT 1)) (.seq (fX (oT 2)) (.seq (fX (oT 3)) (.seq (fX (oT 4)) (.seq (.seq (fX (fX (oT 5))) (.block 4 (.loop (.seq (fX wT) (.seq (fX (cJ wT)) (.seq (.block 5 (Ps (fX (cJ (cJ wT))))) (cJ (cJ (cJ wT))))))))) (cJ (oT 5)))))))
theorem YA : Tryz.f31.body = some aor := by kernel_rfl
theorem aos (h : dU (C g) id (fW g)) : nL (C g) id 31 Bt := by
 intro G H w args v xs aa eJ lX
 unfold Bt at lX
 split at lX
 case isFalse => cases lX
 rename_i hj
 have YB := hj.choose_spec
 generalize hj.choose = j at YB lX
 clear hj
 subst YB
 cases lX
 rw [Cx (C := C g) Tryz.func31 YA (by kernel_rfl)]
 have mV : yQ (fW g) := ajr aoo.hd
 have O0 : IX (fW g) := ajq Yy.hd
 have Mb := amf (C := C g) (fid := id) (vars := Ctx.varsOf Tryz.f31) (N := Tryz.f31.ntmps) (ad := fW g) (p1 := fX Pt) (p2 := fX (oT 1)) (p3 := fX (oT 2)) (lu := fX (oT 3)) (rM := fX (oT 4)) (Ey := fX (fX (oT 5))) (IQ := cJ (oT 5)) (hd := fX wT) (sG := fX (cJ wT)) (qK := Ps (fX (cJ (cJ wT)))) (inc := cJ (cJ (cJ wT)))
  mixed sD (ajw mixed sD h) (by kernel_rfl) (by kernel_rfl) (by kernel_rfl) (by kernel_rfl) (by kernel_rfl) (by kernel_rfl) (by kernel_rfl) (by kernel_rfl) (by kernel_rfl) (by kernel_rfl) (by kernel_rfl) (by kernel_rfl) (by kernel_rfl) mV O0 j
 have hc := SH (C := C g) (H := []) (H' := []) (oA := [.tmp 2]) (fresh := false) (v := .bool (zh j)) (low' := 0) sD Tryz.func31 YA (by kernel_rfl) (args := [.agg (jg j)]) (of_decide_eq_true (by kernel_rfl)) (Mb.mono fun x s hx => by
  obtain ⟨rfl, h2⟩ := hx
  refine ⟨.inr rfl, [.bool (zh j)], ?_, ?_⟩
  · simp only [hZ, lP, h2]; rfl
  · simp [iY, finish, gl, eg, bO, old]) aa.apart (c6.od eJ)
 exact BF hc fun e w' => fun ⟨x, ah, e2⟩ => ⟨x, ah, e2.beside aa (by simp [bO])⟩
noncomputable def ck (g : Nat -> Option Obj) : Nat -> Option ca := over (over (fW g) 31 Bt) 5 (CA [] (.bool true))
theorem aot (h : dU (C g) id (fW g)) : dU (C g) id (ck g) := CB (CB h (aos h)) (aoh h)
end Go.Abs.b1
namespace Go.Abs
open Go Go.ChangeShapes
def rZ : List V -> V
 | [x] => x
 | vs => .agg vs
theorem aou {x : V} (h : eP x = true) : aG x = [x] := by cases x <;> simp_all [eP, aG]
theorem YC {l : List V} (h : b4 l = true) : aG (rZ l) = l := by
 match l, h with
 | [], _ => rfl
 | [x], h => simp only [b4, vk] at h; exact aou h
 | _ :: _ :: _, _ => rfl
inductive e4 {H : Type} (P : Program) : TypeId -> DataW H -> List V -> Prop
 | bool (t : TypeId) (b : Bool) (ht : P.underlying t = some .bool) : e4 P t (.lit (.bool b)) [.bool b]
 | int (t : TypeId) (k : IntKind) (n : Int) (ht : P.underlying t = some (.int k)) (hw : (Lit.int k n).wf = true) : e4 P t (.lit (.int k n)) [.int k n]
 | str (t : TypeId) (s : List UInt8) (ht : P.underlying t = some .string) : e4 P t (.lit (.string s)) [.str s]
 | nil (t e : TypeId) (ht : P.underlying t = some (.slice e)) : e4 P t .nil [.c0]
 | slice (t e : TypeId) (elems spare : List (DataW H)) (ls : List (List V)) (ht : P.underlying t = some (.slice e)) (hl : ls.length = elems.length)
  (h : ∀ (i : Nat) d l, elems[i]? = some d -> ls[i]? = some l -> e4 P e d l) : e4 P t (.slice elems spare) [.list (P.cellsOf e) (ls.map rZ)]
 | struct (t : TypeId) (fs : Array Field) (parts : List (DataW H)) (ls : List (List V)) (ht : P.underlying t = some (.struct fs)) (hp : parts.length = fs.size) (hl : ls.length = fs.size)
  (h : ∀ (i : Nat) (f : Field) d l, fs[i]? = some f -> parts[i]? = some d -> ls[i]? = some l -> e4 P f.type d l) : e4 P t (.agg parts) ls.flatten
def wU (P : Program) : Nat -> TypeId -> Bool
 | 0, _ => false
 | n + 1, t => match P.underlying t with
   | some .bool | some (.int _) | some .string => P.cellsOf t == 1
   | some (.slice e) => P.cellsOf t == 1 && decide (0 < P.cellsOf e) && wU P n e
   | some (.struct fs) => fs.toList.all fun f => wU P n f.type
   | _ => false
theorem Pu {w : World} {I : Nat -> Prop} : ∀ {vs : List V} {xs : List Value} {us : List V} {cN : List Value}, c6 w I vs xs -> c6 w I us cN -> c6 w I (vs ++ us) (xs ++ cN)
 | _, _, _, _, .nil, h => h
 | _, _, _, _, .cons v x vs xs h hs, k => .cons v x _ _ h (Pu hs k)
theorem aov {a b : List V} : b4 (a ++ b) = (b4 a && b4 b) := by
 induction a with
 | nil => simp [b4]
 | cons x a ih => simp [b4, ih, BB]
theorem YD {α : Type} {p : Nat -> α -> Prop} : ∀ n, (∀ i, i < n -> ∃ a, p i a) -> ∃ l : List α, l.length = n /\ ∀ i a, l[i]? = some a -> p i a
 | 0, _ => ⟨[], rfl, fun i a h => by simp at h⟩
 | n + 1, h => by
   obtain ⟨l, hl, hp⟩ := YD n (fun i hi => h i (by omega))
   obtain ⟨a, ao⟩ := h n (by omega)
   refine ⟨l ++ [a], by simp [hl], fun i b hb => ?_⟩
   rcases gg i n with hi | hi
   · rw [hq (by omega)] at hb; exact hp i b hb
   · rw [wW (by omega)] at hb
     have : i - l.length = 0 := by
      rcases Nat.eq_zero_or_pos (i - l.length) with h0 | h0
      · exact h0
      · rw [mF (by simp; omega)] at hb; cases hb
     rw [this] at hb
     cases hb
     have : i = n := by omega
     rw [this]; exact ao
theorem YE {α : Type} {c : Nat} : ∀ {ls : List (List α)} {j : Nat} {x : α}, (∀ l ∈ ls, l.length = c) -> ls.flatten[j]? = some x -> ∃ i r l, ls[i]? = some l /\ l[r]? = some x /\ j = i * c + r /\ r < c
 | [], j, x, _, h => by simp at h
 | l :: ls, j, x, hc, h => by
   have hl := hc l (by simp)
   rw [Ff] at h
   rcases gg j c with hj | hj
   · rw [hq (by omega)] at h
     exact ⟨0, j, l, rfl, h, by omega, hj⟩
   · rw [wW (by omega)] at h
     obtain ⟨i, r, fp, h1, h2, av, bc⟩ := YE (fun m hm => hc m (by simp [hm])) h
     exact ⟨i + 1, r, fp, by simpa using h1, h2, by rw [tl]; omega, bc⟩
section
variable {H : Type} {enc : TypeId × Value -> H} {P : Program} {W : World} {held : Bool}
def zi (W : World) : Nat -> Prop := fun b => b < W.heap.size
def Reads (P : Program) (W : World) (t : TypeId) (cs : List Value) (d : DataW H) : Prop :=
 ∃ vs, e4 P t d vs /\ c6 W (zi W) vs cs /\ b4 vs = true /\ vs.length = P.cellsOf t /\ cs.length = P.cellsOf t
theorem YF {a : Addr} {v : Value} (h : W.cell? a = some v) : a.spot = none /\ a.block < W.heap.size := by
 unfold World.cell? at h
 split at h
 · rename_i c e f eK
   split at h
   · cases h
   · rename_i hs
     refine ⟨by simpa using hs, ?_⟩
     rcases gg a.block W.heap.size with q | q
     · exact q
     · rw [E8 q] at eK; cases eK
 · cases h
theorem YG (n : Nat) (YH : ∀ fuel t cs (x : DataW H × List MemPlace), t < P.types.size -> wU P n t = true -> DataW.trod enc P W 0 (fun _ => true) held fuel t cs = some x -> Reads P W t cs x.1) (m : Nat) (cs : List Value) :
  ∀ (a8 : List Field) (xs : List (DataW H × List MemPlace)) (off : Nat), (∀ (j : Nat) (f : Field), a8[j]? = some f -> f.offset = off + ((a8.take j).map fun f => P.cellsOf f.type).sum) -> xs.length = a8.length -> (∀ f ∈ a8, f.type < P.types.size /\ wU P n f.type = true) ->
    (∀ (i : Nat) (f : Field), a8[i]? = some f -> DataW.trod enc P W 0 (fun _ => true) held m f.type ((cs.drop f.offset).take (P.cellsOf f.type)) = xs[i]?) ->
    ∃ ls : List (List V), ls.length = a8.length /\ (∀ (i : Nat) (f : Field) (y : DataW H × List MemPlace) (l : List V), a8[i]? = some f -> xs[i]? = some y -> ls[i]? = some l -> e4 P f.type y.1 l) /\ c6 W (zi W) ls.flatten ((cs.drop off).take (a8.map fun f => P.cellsOf f.type).sum) /\ b4 ls.flatten = true /\
      ls.flatten.length = (a8.map fun f => P.cellsOf f.type).sum
 | [], xs, off, _, hl, _, _ => ⟨[], rfl, fun i f y l h => by simp at h, by simp; exact .nil, rfl, rfl⟩
 | f :: a8, xs, off, YI, hl, ae, hx => by
   match xs, hl with
   | y :: xs, hl =>
     have h0 := hx 0 f rfl
     have ho := YI 0 f rfl
     simp only [List.take_zero, n5, List.sum_nil, zr] at ho
     rw [ho] at h0
     simp only [pV] at h0
     obtain ⟨vs, bG, ch, eL, gq, iB⟩ := YH m f.type _ y (ae f (by simp)).1 (ae f (by simp)).2 h0
     obtain ⟨ls, q1, aS, bZ, cR, e8⟩ := YG n YH m cs a8 xs (off + P.cellsOf f.type) (fun j g bt => by
       have := YI (j + 1) g (by simpa using bt)
       simp only [List.take_succ_cons, eD, List.sum_cons] at this
       omega) (by simpa using hl) (fun g bt => ae g (by simp [bt])) (fun i g bt => by simpa using hx (i + 1) g (by simpa using bt))
     refine ⟨vs :: ls, by simp [q1], fun i g z l bt aP iZ => ?_, ?_, ?_, ?_⟩
     · cases i with
       | zero =>
         simp only [pV, aA] at bt aP iZ
         subst bt; subst aP; subst iZ; exact bG
       | succ i =>
         simp only [Y7] at bt aP iZ
         exact aS i g z l bt aP iZ
     · rw [Ff, eD, List.sum_cons, List.take_add, r6]
       exact Pu ch bZ
     · rw [Ff, aov, eL, cR]; rfl
     · rw [Ff, kg, gq, e8, eD, List.sum_cons]
theorem reads (hK : laidOutB P = true) : ∀ (n fuel : Nat) (t : TypeId) (cs : List Value) (x : DataW H × List MemPlace), t < P.types.size -> wU P n t = true -> DataW.trod enc P W 0 (fun _ => true) held fuel t cs = some x -> Reads P W t cs x.1
 | 0, _, _, _, _, _, ae, _ => by simp [wU] at ae
 | n + 1, fuel, t, cs, x, Jy, ae, h => by
   unfold wU at ae
   split at ae
   · rename_i ht
     have hc : P.cellsOf t = 1 := by simpa using ae
     obtain ⟨b, rfl, hx⟩ : ∃ b, cs = [.bool b] /\ x = (.lit (.bool b), []) := by
      cases fuel with
      | zero => simp [DataW.trod] at h
      | succ m =>
        unfold DataW.trod at h
        rw [ht] at h
        split at h <;> simp_all
     subst hx
     exact ⟨_, .bool t _ ht, .cons _ _ _ _ (.bool _) .nil, rfl, by rw [hc]; rfl, by rw [hc]; rfl⟩
   · rename_i k ht
     have hc : P.cellsOf t = 1 := by simpa using ae
     obtain ⟨m, rfl, rfl, hw⟩ := DataW.trod_int ht h
     exact ⟨_, .int t k m ht hw, .cons _ _ _ _ (.int k m) .nil, rfl, by rw [hc]; rfl, by rw [hc]; rfl⟩
   · rename_i ht
     have hc : P.cellsOf t = 1 := by simpa using ae
     obtain ⟨s, rfl, rfl, hw⟩ := DataW.trod_string ht h
     obtain ⟨⟨s⟩⟩ := s
     exact ⟨_, .str t _ ht, .cons _ _ _ _ (.str s) .nil, rfl, by rw [hc]; rfl, by rw [hc]; rfl⟩
   · rename_i e ht
     simp only [cd, beq_iff_eq, decide_eq_true_eq] at ae
     obtain ⟨⟨hc, CV⟩, h7⟩ := ae
     have fL := kid_slice hK Jy ht
     rcases DataW.trod_slice ht h with ⟨rfl, rfl⟩ | ⟨a, len, cap, elems, rest, m, -, rfl, rfl, -, qh, -, hlen, Po, -, -⟩
     · exact ⟨_, .nil t e ht, .cons _ _ _ _ .c0 .nil, rfl, by rw [hc]; rfl, by rw [hc]; rfl⟩
     · have each : ∀ i, i < len -> ∃ q : List Value × List V, (∃ y, elems[i]? = some y /\ W.cells? 0 (a.add (i * P.cellsOf e)) (P.cellsOf e) = some q.1 /\ e4 P e y.1 q.2 /\ c6 W (zi W) q.2 q.1 /\ b4 q.2 = true /\ q.2.length = P.cellsOf e /\ q.1.length = P.cellsOf e) := fun i hi => by
        have hb := Po i hi
        obtain ⟨y, hy⟩ : ∃ y, elems[i]? = some y := ⟨_, oV (by omega)⟩
        rw [hy, dG] at hb
        obtain ⟨cs', h1, h2⟩ := hb
        obtain ⟨vs, bG, ch, eL, gq, iB⟩ := reads hK n m e cs' y fL h7 h2
        exact ⟨(cs', vs), y, hy, h1, bG, ch, eL, gq, iB⟩
       obtain ⟨kD, YJ, bD⟩ := YD len each
       have dn : ∀ q ∈ kD, ∃ i, kD[i]? = some q := fun q h => List.getElem?_of_mem h
       refine ⟨[.list (P.cellsOf e) ((kD.map (·.2)).map rZ)], .slice t e (elems.map (·.1)) (rest.map (·.1)) (kD.map (·.2)) ht (by simp [YJ, hlen]) (fun i d l hd hl => ?_), ?_, rfl, by rw [hc]; rfl, by rw [hc]; rfl⟩
       · rw [kh] at hd hl
         cases zj : kD[i]? with
         | none => rw [zj] at hl; cases hl
         | some q =>
           obtain ⟨y, hy, -, h2, -⟩ := bD i q zj
           rw [zj] at hl
           rw [hy] at hd
           cases hd; cases hl
           exact h2
       · refine .cons _ _ _ _ ?_ .nil
         cases rb : len with
         | zero =>
           have : kD = [] := List.eq_nil_of_length_eq_zero (by omega)
           subst this
           exact .tB _ a cap
         | succ asC =>
           obtain ⟨fx, Pr⟩ : ∃ q, kD[0]? = some q := ⟨_, oV (by omega)⟩
           obtain ⟨ai6, -, OM, -, -, -, -, asQ⟩ := bD 0 fx Pr
           have Pv := (World.cells?_some OM).2.2 0 CV
           obtain ⟨v0, B8⟩ : ∃ v, fx.1[0]? = some v := ⟨_, oV (by omega)⟩
           rw [B8] at Pv
           obtain ⟨jJ, a1, aow⟩ := a
           have lX : aow = none := by
            have := (YF Pv).1
            simpa [Addr.add] using this
           subst lX
           have lS : jJ < W.heap.size := by
            have := (YF Pv).2
            rwa [block_add, block_add] at this
           have Jz : ((kD.map (·.2)).map rZ).length = len := by simp [YJ]
           have key : fE W (zi W) (.list (P.cellsOf e) ((kD.map (·.2)).map rZ)) (.slice (some ⟨jJ, a1, none⟩) ((kD.map (·.2)).map rZ).length cap) := by
            refine .list _ _ jJ a1 cap (kD.map (·.1)).flatten lS (fun j x hj => ?_) (fun d hd => ?_) ?_ (by rw [Jz]; exact qh)
            · obtain ⟨i, r, l, h1, h2, rfl, bc⟩ := YE (c := P.cellsOf e) (fun l hl => by
               obtain ⟨q, E6, rfl⟩ := ey.1 hl
               obtain ⟨i, hi⟩ := dn q E6
               obtain ⟨y, -, -, -, -, -, -, h⟩ := bD i q hi
               exact h) hj
              rw [kh] at h1
              cases zj : kD[i]? with
              | none => rw [zj] at h1; cases h1
              | some q =>
                rw [zj] at h1; cases h1
                obtain ⟨y, -, fA, -⟩ := bD i q zj
                have := (World.cells?_some fA).2.2 r bc
                rw [h2] at this
                have ah : ((⟨jJ, a1, none⟩ : Addr).add (i * P.cellsOf e)).add r = ⟨jJ, a1 + (i * P.cellsOf e + r), none⟩ := by
                 simp only [Addr.add]
                 split <;> split <;> simp_all <;> omega
                rw [ah] at this; exact this
            · obtain ⟨l, hl, rfl⟩ := ey.1 hd
              obtain ⟨q, E6, rfl⟩ := ey.1 hl
              obtain ⟨i, hi⟩ := dn q E6
              obtain ⟨y, -, -, -, -, h5, gu, -⟩ := bD i q hi
              rw [YC h5]; exact gu
            · have eo : ∀ q ∈ kD, c6 W (zi W) q.2 q.1 /\ b4 q.2 = true := fun q E6 => by
               obtain ⟨i, hi⟩ := dn q E6
               obtain ⟨y, -, -, -, bc, h5, -⟩ := bD i q hi
               exact ⟨bc, h5⟩
              have : ∀ kD : List (List Value × List V), (∀ q ∈ kD, c6 W (zi W) q.2 q.1 /\ b4 q.2 = true) -> c6 W (zi W) (((kD.map (·.2)).map rZ).flatMap aG) (kD.map (·.1)).flatten := by
               intro kD
               induction kD with
               | nil => intro _; exact .nil
               | cons q kD ih =>
                 intro h
                 have h0 := h q (by simp)
                 simp only [eD, kF, Ff]
                 rw [YC h0.2]
                 exact Pu h0.1 (ih fun p hp => h p (by simp [hp]))
              exact this kD eo
           rw [Jz, rb] at key
           exact key
   · rename_i fs ht
     obtain ⟨cn, dZ, lx⟩ := kid_struct hK Jy ht
     obtain ⟨xs, m, -, rfl, j2, h4, hx⟩ := DataW.trod_struct ht h
     rw [fo] at ae
     obtain ⟨ls, q1, aS, bZ, cR, e8⟩ := YG n (fun fuel t cs x a b c => reads hK n fuel t cs x a b c) m cs fs.toList xs 0 (fun j f hj => by rw [lx j f hj]; omega) (by simpa using h4) (fun f YK => ⟨cn f YK, ae f YK⟩) (fun i f hi => hx i f (by simpa using hi))
     refine ⟨ls.flatten, .struct t fs (xs.map (·.1)) ls ht (by simpa using h4) (by simpa using q1) (fun i f d l q9 hd hl => ?_), ?_, cR, by rw [e8, dZ], j2⟩
     · rw [kh] at hd
       cases qJ : xs[i]? with
       | none => rw [qJ] at hd; cases hd
       | some y =>
         rw [qJ] at hd; cases hd
         exact aS i f y l (by simpa using q9) qJ hl
     · rw [List.drop_zero, JF (by rw [j2, dZ]; exact aK _)] at bZ
       exact bZ
   · cases ae
theorem kE {t : TypeId} {k : IntKind} {d : DataW H} {vs : List V} (ht : P.underlying t = some (.int k)) (h : e4 P t d vs) : ∃ n, d = .lit (.int k n) /\ vs = [.int k n] /\ (Lit.int k n).wf = true := by
 cases h <;> rename_i eu <;> rw [ht] at * <;> try (first | (cases eu; done) | contradiction)
 · rename_i hw; cases eu; exact ⟨_, rfl, rfl, hw⟩
theorem Pw {t : TypeId} {d : DataW H} {vs : List V} (ht : P.underlying t = some .string) (h : e4 P t d vs) : ∃ s, d = .lit (.string s) /\ vs = [.str s] := by
 cases h with
 | str _ s eu => exact ⟨s, rfl, rfl⟩
 | bool _ _ eu | int _ _ _ eu _ | nil _ _ eu | slice _ _ _ _ _ eu _ _ | struct _ _ _ _ eu _ _ _ => rw [ht] at eu; cases eu
theorem aox {t : TypeId} {d : DataW H} {vs : List V} (ht : P.underlying t = some .bool) (h : e4 P t d vs) : ∃ b, d = .lit (.bool b) /\ vs = [.bool b] := by
 cases h with
 | bool _ b eu => exact ⟨b, rfl, rfl⟩
 | str _ _ eu | int _ _ _ eu _ | nil _ _ eu | slice _ _ _ _ _ eu _ _ | struct _ _ _ _ eu _ _ _ => rw [ht] at eu; cases eu
theorem aoy {t e : TypeId} {d : DataW H} {vs : List V} (ht : P.underlying t = some (.slice e)) (h : e4 P t d vs) :
  (d = .nil /\ vs = [.c0]) \/ ∃ (elems spare : List (DataW H)) (ls : List (List V)), d = .slice elems spare /\ vs = [.list (P.cellsOf e) (ls.map rZ)] /\ ls.length = elems.length /\ ∀ (i : Nat) d l, elems[i]? = some d -> ls[i]? = some l -> e4 P e d l := by
 cases h with
 | nil _ _ eu => exact .inl ⟨rfl, rfl⟩
 | slice _ e' elems spare ls eu hl h => rw [ht] at eu; cases eu; exact .inr ⟨elems, spare, ls, rfl, rfl, hl, h⟩
 | bool _ _ eu | str _ _ eu | int _ _ _ eu _ | struct _ _ _ _ eu _ _ _ => rw [ht] at eu; cases eu
theorem qM {t : TypeId} {fs : Array Field} {d : DataW H} {vs : List V} (ht : P.underlying t = some (.struct fs)) (h : e4 P t d vs) :
  ∃ (parts : List (DataW H)) (ls : List (List V)), d = .agg parts /\ vs = ls.flatten /\ parts.length = fs.size /\ ls.length = fs.size /\ ∀ (i : Nat) (f : Field) d l, fs[i]? = some f -> parts[i]? = some d -> ls[i]? = some l -> e4 P f.type d l := by
 cases h with
 | struct _ asD parts ls eu hp hl h => rw [ht] at eu; cases eu; exact ⟨parts, ls, rfl, rfl, hp, hl, h⟩
 | bool _ _ eu | str _ _ eu | int _ _ _ eu _ | nil _ _ eu | slice _ _ _ _ _ eu _ _ => rw [ht] at eu; cases eu
end
end Go.Abs
