/- Texts of this claim, joined and written short by a program. -/
import Derived.Test.YtjgngmpmjbkbpaaGreatDoorP41
import Derived.Test.YtjgngmpmjbkbpaaGreatDoorP02
import Derived.ChangeBears
import Derived.ChangeSlices
import Derived.SizedLaws
import Derived.Test.YtjgngmpmjbkbpaaGreatDoorP01
import Derived.Test.YtjgngmpmjbkbpaaGreatDoorCards
import Derived.WalkKit
import Derived.ProofKit
import Derived.OpenShut
import Derived.ChangeStays
import Derived.Deep.DeepHandedRow
import Derived.Deep.DeepLaidRun
import Derived.Lib.LaidTab
import Derived.Test.YtjgngmpmjbkbpaaGreatDoorP00
set_option linter.unusedVariables false
set_option linter.unusedSimpArgs false
set_option linter.unusedSectionVars false
set_option maxRecDepth 100000
namespace Go.Abs.U
open Go Go.Abs Go.Abs.Lex Go.Proofs
variable {g : Nat -> Option Obj}
theorem Pq {A : Type} {es : Nat} {f : A -> V} (ae : ∀ a b, f a = f b -> a = b) {x y : ak A} (h : bP es f x = bP es f y) : x = y := by
 cases x <;> cases y <;> simp only [bP, reduceCtorEq, V.list.injEq, true_and] at h <;> try rfl
 rename_i l m
 congr 1
 induction l generalizing m with
 | nil => cases m <;> simp_all
 | cons a l ih =>
   cases m with
   | nil => simp at h
   | cons b m =>
     simp only [eD, zp] at h
     rw [ae _ _ h.1, ih m h.2]
theorem aoi (a b : Int) (h : aI a = aI b) : a = b := by cases h; rfl
theorem aoj (a b : Table) (h : kU a = kU b) : a = b := by
 obtain ⟨al, a2, a3, ⟨a4, a5⟩, Bp⟩ := a
 obtain ⟨ec, gJ, ju, ⟨lb, tD⟩, Yr⟩ := b
 simp only [kU, V.agg.injEq, zp, V.str.injEq, V.int.injEq, true_and, and_true] at h
 obtain ⟨rfl, rfl, av, rfl, rfl, rfl⟩ := h
 rw [Pq aoi av]
theorem aok (a b : fN) (h : iF a = iF b) : a = b := by
 obtain ⟨al, a2, a3⟩ := a
 obtain ⟨ec, gJ, ju⟩ := b
 simp only [iF, V.agg.injEq, zp, V.int.injEq, true_and, and_true] at h
 obtain ⟨rfl, rfl, rfl⟩ := h
 rfl
def zh (j : dJ) : Bool := ya j.Model.Tables.l j.Model.bn.l
theorem aol {a b : dJ} (h : V.agg (jg a) = V.agg (jg b)) : zh a = zh b := by
 simp only [jg, V.agg.injEq, zp] at h
 unfold zh
 rw [Pq aoj h.2.1, Pq aok h.2.2.2.2.2.2.1]
noncomputable section
open Go.Abs.gB
def ou : List (bR bh) := []
theorem Pr : b6 (fW g) ou := fun _ h => by cases h
def ay0 : List (bR bh) := ⟨188, [], [.v 0, .v 0], [1], fun c a => l4 a.1 a.2.1⟩ :: ou
theorem ay1 : b6 (fW g) ay0 := cA cy Pr [] (.two .o (.pu [4] .o)) (by kernel_rfl) fun c a => by kernel_rfl
def ay2 : List (bR bh) := ⟨306, [], [.v 5, .f [4] 1], [0], fun c a => Vy a.1 a.2.1⟩ :: ay0
theorem aDO : b6 (fW g) ay2 := cA cy ay1 [] (.two .o (.two (.two .o (.dj [(.s 8, .p 0)] [(.exit 0, []), (.ret, [(.s 4, .p 0)])] .o)) .o)) (by kernel_rfl) fun c a => by kernel_rfl
def aDP : List (bR bh) := ⟨196, [], [.v 5, .f [4] 1], [1], fun c a => DX a.1 a.2.1⟩ :: ay2
theorem aDQ : b6 (fW g) aDP := cA cy aDO [] .o (by kernel_rfl) fun c a => by kernel_rfl
end
open Classical in
noncomputable def Bt : List V -> Option V := fun args => if h : ∃ j, args = [.agg (jg j)] then some (.bool (zh h.choose)) else none
theorem aop (j : dJ) : Bt [.agg (jg j)] = some (.bool (zh j)) := by
 have h : ∃ tT, [V.agg (jg j)] = [.agg (jg tT)] := ⟨j, rfl⟩
 unfold Bt
 rw [dif_pos h]
 exact congrArg (fun b => some (V.bool b)) (aol (et h.choose_spec).1).symm
def Ps : Code -> Code | .block _ c => c | c => c
def aoq : Code -> Code | .loop c => c | c => c
noncomputable def Vm : Code := Tryz.f95.body.getD .skip
noncomputable def sV : Nat -> Code
 | 0 => Vm
 | n + 1 => cJ (sV n)
noncomputable def y3 : Code := aoq (Ps (cJ (fX (sV 5))))
noncomputable def aDR : Code := .seq (fX Vm) (.seq (fX (sV 1)) (.seq (fX (sV 2)) (.seq (fX (sV 3)) (.seq (fX (sV 4)) (.seq (.seq (fX (fX (sV 5))) (.block 4 (.loop (.seq (fX y3) (.seq (fX (cJ y3)) (.seq (.block 5 (Ps (fX (cJ (cJ y3))))) (cJ (cJ (cJ y3))))))))) (cJ (sV 5)))))))
theorem ay3 : Tryz.f95.body = some aDR := by kernel_rfl
theorem aos (h : dU (C g) id (fW g)) : nL (C g) id 95 Bt := by
 intro G H w args v xs aa eJ lX
 unfold Bt at lX
 split at lX
 case isFalse => cases lX
 rename_i hj
 have YB := hj.choose_spec
 generalize hj.choose = j at YB lX
 clear hj
 subst YB
 cases lX
 rw [Cx (C := C g) Tryz.func95 ay3 (by kernel_rfl)]
 have mV : yQ (fW g) := ajr aDQ.hd
 have O0 : IX (fW g) := ajq ay1.hd
 have Mb := amf (C := C g) (fid := id) (vars := Ctx.varsOf Tryz.f95) (N := Tryz.f95.ntmps) (ad := fW g) (p1 := fX Vm) (p2 := fX (sV 1)) (p3 := fX (sV 2)) (lu := fX (sV 3)) (rM := fX (sV 4)) (Ey := fX (fX (sV 5))) (IQ := cJ (sV 5)) (hd := fX y3) (sG := fX (cJ y3)) (qK := Ps (fX (cJ (cJ y3)))) (inc := cJ (cJ (cJ y3)))
  mixed sD (ajw mixed sD h) (by kernel_rfl) (by kernel_rfl) (by kernel_rfl) (by kernel_rfl) (by kernel_rfl) (by kernel_rfl) (by kernel_rfl) (by kernel_rfl) (by kernel_rfl) (by kernel_rfl) (by kernel_rfl) (by kernel_rfl) (by kernel_rfl) mV O0 j
 have hc := SH (C := C g) (H := []) (H' := []) (oA := [.tmp 2]) (fresh := false) (v := .bool (zh j)) (low' := 0) sD Tryz.func95 ay3 (by kernel_rfl) (args := [.agg (jg j)]) (of_decide_eq_true (by kernel_rfl)) (Mb.mono fun x s hx => by
  obtain ⟨rfl, h2⟩ := hx
  refine ⟨.inr rfl, [.bool (zh j)], ?_, ?_⟩
  · simp only [hZ, lP, h2]; rfl
  · simp [iY, finish, gl, eg, bO, old]) aa.apart (c6.od eJ)
 exact BF hc fun e w' => fun ⟨x, ah, e2⟩ => ⟨x, ah, e2.beside aa (by simp [bO])⟩
noncomputable def ck (g : Nat -> Option Obj) : Nat -> Option ca := over (over (fW g) 95 Bt) 4 (CA [] (.bool true))
theorem aot (h : dU (C g) id (fW g)) : dU (C g) id (ck g) := CB (CB h (aos h)) (aoh h)
end Go.Abs.U
namespace Go.Abs
open Go Go.ChangeShapes
def rZ : List V -> V
 | [x] => x
 | vs => .agg vs
theorem aou {x : V} (h : eP x = true) : aG x = [x] := by cases x <;> simp_all [eP, aG]
theorem YC {l : List V} (h : b4 l = true) : aG (rZ l) = l := by
 match l, h with
 | [], _ => rfl
 | [x], h => simp only [b4, vk] at h; exact aou h
 | _ :: _ :: _, _ => rfl
inductive e4 {H : Type} (P : Program) : TypeId -> DataW H -> List V -> Prop
 | bool (t : TypeId) (b : Bool) (ht : P.underlying t = some .bool) : e4 P t (.lit (.bool b)) [.bool b]
 | int (t : TypeId) (k : IntKind) (n : Int) (ht : P.underlying t = some (.int k)) (hw : (Lit.int k n).wf = true) : e4 P t (.lit (.int k n)) [.int k n]
 | str (t : TypeId) (s : List UInt8) (ht : P.underlying t = some .string) : e4 P t (.lit (.string s)) [.str s]
 | nil (t e : TypeId) (ht : P.underlying t = some (.slice e)) : e4 P t .nil [.c0]
 | slice (t e : TypeId) (elems spare : List (DataW H)) (ls : List (List V)) (ht : P.underlying t = some (.slice e)) (hl : ls.length = elems.length)
  (h : ∀ (i : Nat) d l, elems[i]? = some d -> ls[i]? = some l -> e4 P e d l) : e4 P t (.slice elems spare) [.list (P.cellsOf e) (ls.map rZ)]
 | struct (t : TypeId) (fs : Array Field) (parts : List (DataW H)) (ls : List (List V)) (ht : P.underlying t = some (.struct fs)) (hp : parts.length = fs.size) (hl : ls.length = fs.size)
  (h : ∀ (i : Nat) (f : Field) d l, fs[i]? = some f -> parts[i]? = some d -> ls[i]? = some l -> e4 P f.type d l) : e4 P t (.agg parts) ls.flatten
def wU (P : Program) : Nat -> TypeId -> Bool
 | 0, _ => false
 | n + 1, t => match P.underlying t with
   | some .bool | some (.int _) | some .string => P.cellsOf t == 1
   | some (.slice e) => P.cellsOf t == 1 && decide (0 < P.cellsOf e) && wU P n e
   | some (.struct fs) => fs.toList.all fun f => wU P n f.type
   | _ => false
theorem Pu {w : World} {I : Nat -> Prop} : ∀ {vs : List V} {xs : List Value} {us : List V} {cN : List Value}, c6 w I vs xs -> c6 w I us cN -> c6 w I (vs ++ us) (xs ++ cN)
 | _, _, _, _, .nil, h => h
 | _, _, _, _, .cons v x vs xs h hs, k => .cons v x _ _ h (Pu hs k)
theorem aov {a b : List V} : b4 (a ++ b) = (b4 a && b4 b) := by
 induction a with
 | nil => simp [b4]
 | cons x a ih => simp [b4, ih, BB]
theorem YD {α : Type} {p : Nat -> α -> Prop} : ∀ n, (∀ i, i < n -> ∃ a, p i a) -> ∃ l : List α, l.length = n /\ ∀ i a, l[i]? = some a -> p i a
 | 0, _ => ⟨[], rfl, fun i a h => by simp at h⟩
 | n + 1, h => by
   obtain ⟨l, hl, hp⟩ := YD n (fun i hi => h i (by omega))
   obtain ⟨a, ao⟩ := h n (by omega)
   refine ⟨l ++ [a], by simp [hl], fun i b hb => ?_⟩
   rcases gg i n with hi | hi
   · rw [hq (by omega)] at hb; exact hp i b hb
   · rw [wW (by omega)] at hb
     have : i - l.length = 0 := by
      rcases Nat.eq_zero_or_pos (i - l.length) with h0 | h0
      · exact h0
      · rw [mF (by simp; omega)] at hb; cases hb
     rw [this] at hb
     cases hb
     have : i = n := by omega
     rw [this]; exact ao
theorem YE {α : Type} {c : Nat} : ∀ {ls : List (List α)} {j : Nat} {x : α}, (∀ l ∈ ls, l.length = c) -> ls.flatten[j]? = some x -> ∃ i r l, ls[i]? = some l /\ l[r]? = some x /\ j = i * c + r /\ r < c
 | [], j, x, _, h => by simp at h
 | l :: ls, j, x, hc, h => by
   have hl := hc l (by simp)
   rw [Ff] at h
   rcases gg j c with hj | hj
   · rw [hq (by omega)] at h
     exact ⟨0, j, l, rfl, h, by omega, hj⟩
   · rw [wW (by omega)] at h
     obtain ⟨i, r, fp, h1, h2, av, bc⟩ := YE (fun m hm => hc m (by simp [hm])) h
     exact ⟨i + 1, r, fp, by simpa using h1, h2, by rw [tl]; omega, bc⟩
section
variable {H : Type} {enc : TypeId × Value -> H} {P : Program} {W : World} {held : Bool}
def zi (W : World) : Nat -> Prop := fun b => b < W.heap.size
def Reads (P : Program) (W : World) (t : TypeId) (cs : List Value) (d : DataW H) : Prop :=
 ∃ vs, e4 P t d vs /\ c6 W (zi W) vs cs /\ b4 vs = true /\ vs.length = P.cellsOf t /\ cs.length = P.cellsOf t
theorem YF {a : Addr} {v : Value} (h : W.cell? a = some v) : a.spot = none /\ a.block < W.heap.size := by
 unfold World.cell? at h
 split at h
 · rename_i c e f eK
   split at h
   · cases h
   · rename_i hs
     refine ⟨by simpa using hs, ?_⟩
     rcases gg a.block W.heap.size with q | q
     · exact q
     · rw [E8 q] at eK; cases eK
 · cases h
theorem YG (n : Nat) (YH : ∀ fuel t cs (x : DataW H × List MemPlace), t < P.types.size -> wU P n t = true -> DataW.trod enc P W 0 (fun _ => true) held fuel t cs = some x -> Reads P W t cs x.1) (m : Nat) (cs : List Value) :
  ∀ (a8 : List Field) (xs : List (DataW H × List MemPlace)) (off : Nat), (∀ (j : Nat) (f : Field), a8[j]? = some f -> f.offset = off + ((a8.take j).map fun f => P.cellsOf f.type).sum) -> xs.length = a8.length -> (∀ f ∈ a8, f.type < P.types.size /\ wU P n f.type = true) ->
    (∀ (i : Nat) (f : Field), a8[i]? = some f -> DataW.trod enc P W 0 (fun _ => true) held m f.type ((cs.drop f.offset).take (P.cellsOf f.type)) = xs[i]?) ->
    ∃ ls : List (List V), ls.length = a8.length /\ (∀ (i : Nat) (f : Field) (y : DataW H × List MemPlace) (l : List V), a8[i]? = some f -> xs[i]? = some y -> ls[i]? = some l -> e4 P f.type y.1 l) /\ c6 W (zi W) ls.flatten ((cs.drop off).take (a8.map fun f => P.cellsOf f.type).sum) /\ b4 ls.flatten = true /\
      ls.flatten.length = (a8.map fun f => P.cellsOf f.type).sum
 | [], xs, off, _, hl, _, _ => ⟨[], rfl, fun i f y l h => by simp at h, by simp; exact .nil, rfl, rfl⟩
 | f :: a8, xs, off, YI, hl, ae, hx => by
   match xs, hl with
   | y :: xs, hl =>
     have h0 := hx 0 f rfl
     have ho := YI 0 f rfl
     simp only [List.take_zero, n5, List.sum_nil, zr] at ho
     rw [ho] at h0
     simp only [pV] at h0
     obtain ⟨vs, bG, ch, eL, gq, iB⟩ := YH m f.type _ y (ae f (by simp)).1 (ae f (by simp)).2 h0
     obtain ⟨ls, q1, aS, bZ, cR, e8⟩ := YG n YH m cs a8 xs (off + P.cellsOf f.type) (fun j g bt => by
       have := YI (j + 1) g (by simpa using bt)
       simp only [List.take_succ_cons, eD, List.sum_cons] at this
       omega) (by simpa using hl) (fun g bt => ae g (by simp [bt])) (fun i g bt => by simpa using hx (i + 1) g (by simpa using bt))
     refine ⟨vs :: ls, by simp [q1], fun i g z l bt aP iZ => ?_, ?_, ?_, ?_⟩
     · cases i with
       | zero =>
         simp only [pV, aA] at bt aP iZ
         subst bt; subst aP; subst iZ; exact bG
       | succ i =>
         simp only [Y7] at bt aP iZ
         exact aS i g z l bt aP iZ
     · rw [Ff, eD, List.sum_cons, List.take_add, r6]
       exact Pu ch bZ
     · rw [Ff, aov, eL, cR]; rfl
     · rw [Ff, kg, gq, e8, eD, List.sum_cons]
theorem reads (hK : laidOutB P = true) : ∀ (n fuel : Nat) (t : TypeId) (cs : List Value) (x : DataW H × List MemPlace), t < P.types.size -> wU P n t = true -> DataW.trod enc P W 0 (fun _ => true) held fuel t cs = some x -> Reads P W t cs x.1
 | 0, _, _, _, _, _, ae, _ => by simp [wU] at ae
 | n + 1, fuel, t, cs, x, Jy, ae, h => by
   unfold wU at ae
   split at ae
   · rename_i ht
     have hc : P.cellsOf t = 1 := by simpa using ae
     obtain ⟨b, rfl, hx⟩ : ∃ b, cs = [.bool b] /\ x = (.lit (.bool b), []) := by
      cases fuel with
      | zero => simp [DataW.trod] at h
      | succ m =>
        unfold DataW.trod at h
        rw [ht] at h
        split at h <;> simp_all
     subst hx
     exact ⟨_, .bool t _ ht, .cons _ _ _ _ (.bool _) .nil, rfl, by rw [hc]; rfl, by rw [hc]; rfl⟩
   · rename_i k ht
     have hc : P.cellsOf t = 1 := by simpa using ae
     obtain ⟨m, rfl, rfl, hw⟩ := DataW.trod_int ht h
     exact ⟨_, .int t k m ht hw, .cons _ _ _ _ (.int k m) .nil, rfl, by rw [hc]; rfl, by rw [hc]; rfl⟩
   · rename_i ht
     have hc : P.cellsOf t = 1 := by simpa using ae
     obtain ⟨s, rfl, rfl, hw⟩ := DataW.trod_string ht h
     obtain ⟨⟨s⟩⟩ := s
     exact ⟨_, .str t _ ht, .cons _ _ _ _ (.str s) .nil, rfl, by rw [hc]; rfl, by rw [hc]; rfl⟩
   · rename_i e ht
     simp only [cd, beq_iff_eq, decide_eq_true_eq] at ae
     obtain ⟨⟨hc, CV⟩, h7⟩ := ae
     have fL := kid_slice hK Jy ht
     rcases DataW.trod_slice ht h with ⟨rfl, rfl⟩ | ⟨a, len, cap, elems, rest, m, -, rfl, rfl, -, qh, -, hlen, Po, -, -⟩
     · exact ⟨_, .nil t e ht, .cons _ _ _ _ .c0 .nil, rfl, by rw [hc]; rfl, by rw [hc]; rfl⟩
     · have each : ∀ i, i < len -> ∃ q : List Value × List V, (∃ y, elems[i]? = some y /\ W.cells? 0 (a.add (i * P.cellsOf e)) (P.cellsOf e) = some q.1 /\ e4 P e y.1 q.2 /\ c6 W (zi W) q.2 q.1 /\ b4 q.2 = true /\ q.2.length = P.cellsOf e /\ q.1.length = P.cellsOf e) := fun i hi => by
        have hb := Po i hi
        obtain ⟨y, hy⟩ : ∃ y, elems[i]? = some y := ⟨_, oV (by omega)⟩
        rw [hy, dG] at hb
        obtain ⟨cs', h1, h2⟩ := hb
        obtain ⟨vs, bG, ch, eL, gq, iB⟩ := reads hK n m e cs' y fL h7 h2
        exact ⟨(cs', vs), y, hy, h1, bG, ch, eL, gq, iB⟩
       obtain ⟨kD, YJ, bD⟩ := YD len each
       have dn : ∀ q ∈ kD, ∃ i, kD[i]? = some q := fun q h => List.getElem?_of_mem h
       refine ⟨[.list (P.cellsOf e) ((kD.map (·.2)).map rZ)], .slice t e (elems.map (·.1)) (rest.map (·.1)) (kD.map (·.2)) ht (by simp [YJ, hlen]) (fun i d l hd hl => ?_), ?_, rfl, by rw [hc]; rfl, by rw [hc]; rfl⟩
       · rw [kh] at hd hl
         cases zj : kD[i]? with
         | none => rw [zj] at hl; cases hl
         | some q =>
           obtain ⟨y, hy, -, h2, -⟩ := bD i q zj
           rw [zj] at hl
           rw [hy] at hd
           cases hd; cases hl
           exact h2
       · refine .cons _ _ _ _ ?_ .nil
         cases rb : len with
         | zero =>
           have : kD = [] := List.eq_nil_of_length_eq_zero (by omega)
           subst this
           exact .tB _ a cap
         | succ asC =>
           obtain ⟨fx, Pr⟩ : ∃ q, kD[0]? = some q := ⟨_, oV (by omega)⟩
           obtain ⟨ai6, -, OM, -, -, -, -, asQ⟩ := bD 0 fx Pr
           have Pv := (World.cells?_some OM).2.2 0 CV
           obtain ⟨v0, B8⟩ : ∃ v, fx.1[0]? = some v := ⟨_, oV (by omega)⟩
           rw [B8] at Pv
           obtain ⟨jJ, a1, aow⟩ := a
           have lX : aow = none := by
            have := (YF Pv).1
            simpa [Addr.add] using this
           subst lX
           have lS : jJ < W.heap.size := by
            have := (YF Pv).2
            rwa [block_add, block_add] at this
           have Jz : ((kD.map (·.2)).map rZ).length = len := by simp [YJ]
           have key : fE W (zi W) (.list (P.cellsOf e) ((kD.map (·.2)).map rZ)) (.slice (some ⟨jJ, a1, none⟩) ((kD.map (·.2)).map rZ).length cap) := by
            refine .list _ _ jJ a1 cap (kD.map (·.1)).flatten lS (fun j x hj => ?_) (fun d hd => ?_) ?_ (by rw [Jz]; exact qh)
            · obtain ⟨i, r, l, h1, h2, rfl, bc⟩ := YE (c := P.cellsOf e) (fun l hl => by
               obtain ⟨q, E6, rfl⟩ := ey.1 hl
               obtain ⟨i, hi⟩ := dn q E6
               obtain ⟨y, -, -, -, -, -, -, h⟩ := bD i q hi
               exact h) hj
              rw [kh] at h1
              cases zj : kD[i]? with
              | none => rw [zj] at h1; cases h1
              | some q =>
                rw [zj] at h1; cases h1
                obtain ⟨y, -, fA, -⟩ := bD i q zj
                have := (World.cells?_some fA).2.2 r bc
                rw [h2] at this
                have ah : ((⟨jJ, a1, none⟩ : Addr).add (i * P.cellsOf e)).add r = ⟨jJ, a1 + (i * P.cellsOf e + r), none⟩ := by
                 simp only [Addr.add]
                 split <;> split <;> simp_all <;> omega
                rw [ah] at this; exact this
            · obtain ⟨l, hl, rfl⟩ := ey.1 hd
              obtain ⟨q, E6, rfl⟩ := ey.1 hl
              obtain ⟨i, hi⟩ := dn q E6
              obtain ⟨y, -, -, -, -, h5, gu, -⟩ := bD i q hi
              rw [YC h5]; exact gu
            · have eo : ∀ q ∈ kD, c6 W (zi W) q.2 q.1 /\ b4 q.2 = true := fun q E6 => by
               obtain ⟨i, hi⟩ := dn q E6
               obtain ⟨y, -, -, -, bc, h5, -⟩ := bD i q hi
               exact ⟨bc, h5⟩
              have : ∀ kD : List (List Value × List V), (∀ q ∈ kD, c6 W (zi W) q.2 q.1 /\ b4 q.2 = true) -> c6 W (zi W) (((kD.map (·.2)).map rZ).flatMap aG) (kD.map (·.1)).flatten := by
               intro kD
               induction kD with
               | nil => intro _; exact .nil
               | cons q kD ih =>
                 intro h
                 have h0 := h q (by simp)
                 simp only [eD, kF, Ff]
                 rw [YC h0.2]
                 exact Pu h0.1 (ih fun p hp => h p (by simp [hp]))
              exact this kD eo
           rw [Jz, rb] at key
           exact key
   · rename_i fs ht
     obtain ⟨cn, dZ, lx⟩ := kid_struct hK Jy ht
     obtain ⟨xs, m, -, rfl, j2, h4, hx⟩ := DataW.trod_struct ht h
     rw [fo] at ae
     obtain ⟨ls, q1, aS, bZ, cR, e8⟩ := YG n (fun fuel t cs x a b c => reads hK n fuel t cs x a b c) m cs fs.toList xs 0 (fun j f hj => by rw [lx j f hj]; omega) (by simpa using h4) (fun f YK => ⟨cn f YK, ae f YK⟩) (fun i f hi => hx i f (by simpa using hi))
     refine ⟨ls.flatten, .struct t fs (xs.map (·.1)) ls ht (by simpa using h4) (by simpa using q1) (fun i f d l q9 hd hl => ?_), ?_, cR, by rw [e8, dZ], j2⟩
     · rw [kh] at hd
       cases qJ : xs[i]? with
       | none => rw [qJ] at hd; cases hd
       | some y =>
         rw [qJ] at hd; cases hd
         exact aS i f y l (by simpa using q9) qJ hl
     · rw [List.drop_zero, JF (by rw [j2, dZ]; exact aK _)] at bZ
       exact bZ
   · cases ae
theorem kE {t : TypeId} {k : IntKind} {d : DataW H} {vs : List V} (ht : P.underlying t = some (.int k)) (h : e4 P t d vs) : ∃ n, d = .lit (.int k n) /\ vs = [.int k n] /\ (Lit.int k n).wf = true := by
 cases h <;> rename_i eu <;> rw [ht] at * <;> try (first | (cases eu; done) | contradiction)
 · rename_i hw; cases eu; exact ⟨_, rfl, rfl, hw⟩
theorem Pw {t : TypeId} {d : DataW H} {vs : List V} (ht : P.underlying t = some .string) (h : e4 P t d vs) : ∃ s, d = .lit (.string s) /\ vs = [.str s] := by
 cases h with
 | str _ s eu => exact ⟨s, rfl, rfl⟩
 | bool _ _ eu | int _ _ _ eu _ | nil _ _ eu | slice _ _ _ _ _ eu _ _ | struct _ _ _ _ eu _ _ _ => rw [ht] at eu; cases eu
theorem aox {t : TypeId} {d : DataW H} {vs : List V} (ht : P.underlying t = some .bool) (h : e4 P t d vs) : ∃ b, d = .lit (.bool b) /\ vs = [.bool b] := by
 cases h with
 | bool _ b eu => exact ⟨b, rfl, rfl⟩
 | str _ _ eu | int _ _ _ eu _ | nil _ _ eu | slice _ _ _ _ _ eu _ _ | struct _ _ _ _ eu _ _ _ => rw [ht] at eu; cases eu
theorem aoy {t e : TypeId} {d : DataW H} {vs : List V} (ht : P.underlying t = some (.slice e)) (h : e4 P t d vs) :
  (d = .nil /\ vs = [.c0]) \/ ∃ (elems spare : List (DataW H)) (ls : List (List V)), d = .slice elems spare /\ vs = [.list (P.cellsOf e) (ls.map rZ)] /\ ls.length = elems.length /\ ∀ (i : Nat) d l, elems[i]? = some d -> ls[i]? = some l -> e4 P e d l := by
 cases h with
 | nil _ _ eu => exact .inl ⟨rfl, rfl⟩
 | slice _ e' elems spare ls eu hl h => rw [ht] at eu; cases eu; exact .inr ⟨elems, spare, ls, rfl, rfl, hl, h⟩
 | bool _ _ eu | str _ _ eu | int _ _ _ eu _ | struct _ _ _ _ eu _ _ _ => rw [ht] at eu; cases eu
theorem qM {t : TypeId} {fs : Array Field} {d : DataW H} {vs : List V} (ht : P.underlying t = some (.struct fs)) (h : e4 P t d vs) :
  ∃ (parts : List (DataW H)) (ls : List (List V)), d = .agg parts /\ vs = ls.flatten /\ parts.length = fs.size /\ ls.length = fs.size /\ ∀ (i : Nat) (f : Field) d l, fs[i]? = some f -> parts[i]? = some d -> ls[i]? = some l -> e4 P f.type d l := by
 cases h with
 | struct _ asD parts ls eu hp hl h => rw [ht] at eu; cases eu; exact ⟨parts, ls, rfl, rfl, hp, hl, h⟩
 | bool _ _ eu | str _ _ eu | int _ _ _ eu _ | nil _ _ eu | slice _ _ _ _ _ eu _ _ => rw [ht] at eu; cases eu
theorem aDS {t e : TypeId} {elems spare : List (DataW H)} (ht : P.underlying t = some (.slice e)) : (elems.length + spare.length) * P.bytesOf e ∈ (DataW.slice elems spare).weights P t := by simp [DataW.weights, ht]
theorem aDT (hK : laidOutB P = true) {n : Nat} {t : TypeId} {v : Value} {d : DataW H} {ps : List MemPlace} (Jy : t < P.types.size) (ae : wU P n t = true) (sg : v.cells.toList = [v])
  (hd : DataW.Trod enc P W 0 (fun _ => true) held t v d ps) : ∃ lD, e4 P t d [lD] /\ fE W (zi W) lD v := by
 obtain ⟨fuel, hd⟩ := hd
 obtain ⟨vs, bG, ch, eL, gq, iB⟩ := reads hK n fuel t _ _ Jy ae hd
 rw [sg] at ch
 cases ch with
 | cons lD x vs xs h hs => cases hs; exact ⟨lD, bG, h⟩
end
end Go.Abs
namespace Go.Abs.U
open Go Go.Abs Go.Proofs
set_option maxRecDepth 100000
def ue (W : World) : bT := ⟨fun _ => none, fun b => b < W.heap.size⟩
theorem aoz (W : World) : bb (C fun b => W.heap[b]?) id (ue W) [] W where
 obj l h e := by cases e
 inj l fp h h' e := by cases e
 blk l h e := by cases e
 cX b hb := ⟨hb, fun l h e => by cases e⟩
 jY l h e := by cases e
 e6 b o h := ⟨by
  rcases gg b W.heap.size with q | q
  · exact q
  · simp [C, E8 q] at h, h⟩
theorem E7 {W w' : World} {G' : bT} {H' : Heap} (aa : bb (C fun b => W.heap[b]?) id G' H' w') {b : Nat} (hb : b < W.heap.size) : w'.heap[b]? = W.heap[b]? := by
 have h : W.heap[b]? = some W.heap[b] := by simp [hb]
 rw [(aa.e6 b _ h).2, h]
theorem aoA {W w' : World} {G' : bT} {H' : Heap} (aa : bb (C fun b => W.heap[b]?) id G' H' w') {b off : Nat} (hb : b < W.heap.size) : w'.cell? ⟨b, off, none⟩ = W.cell? ⟨b, off, none⟩ := by
 unfold World.cell?; rw [E7 aa hb]
theorem aoB {W w' : World} {G' : bT} {H' : Heap} (aa : bb (C fun b => W.heap[b]?) id G' H' w') (ho : w'.os = W.os) (hp : w'.output = W.output) (may : MemPlace -> Prop) : W.keptBut w' may := by
 refine ⟨ho, hp, fun i hi => ?_⟩
 rw [E7 aa hi]
 cases h : W.heap[i]? with
 | none => simp
 | some o => cases o <;> simp
theorem YL {P : Program} {w : World} {n : String} {d : DataW Unit} : ∀ {l : List (String × DataW Unit)} {ps : List MemPlace}, DataW.LaidVars P w l ps -> (n, d) ∈ l ->
  ∃ g t cs fuel p, P.globalNamed n = some g /\ (P.globals[g]?).map (·.type) = some t /\ w.var? P n = some cs /\ DataW.trod (fun _ => ()) P w 0 (fun _ => true) false fuel t cs.toList = some (d, p)
 | [], _, _, h => by cases h
 | (m, e) :: r, ps, h, hm => by
   obtain ⟨g, t, cs, fuel, p, q, h1, h2, av, bc, h5, -⟩ := h
   rcases dS.1 hm with hm | hm
   · cases hm; exact ⟨g, t, cs, fuel, p, h1, h2, av, bc⟩
   · exact YL h5 hm
theorem aoC {P : Program} {W : World} {name : String} {k : IntKind} {dc : List Int} {l : List (String × DataW Unit)} {g : Nat} {t e : TypeId} {n : Nat}
  (bt : P.globalNamed name = some g) (aoD : (P.globals[g]?).map (·.type) = some t) (ht : P.underlying t = some (.array n e)) (he : P.underlying e = some (.int k)) (CV : P.cellsOf e = 1) (Je : P.cellsOf t = n)
  (h : laidMet P l W) (hm : (name, Lib.tabData k dc) ∈ l) : Lib.TabIs P W name k dc := by
 obtain ⟨ps, af, -⟩ := h
 obtain ⟨asE, e5, cs, fuel, p, aoE, eu, aoF, hd⟩ := YL af hm
 obtain rfl := Bz (bt.symm.trans aoE)
 obtain rfl := Bz (aoD.symm.trans eu)
 unfold Lib.TabIs
 rw [aoF, <- Lib.cells_of_tab ht he CV Je hd]
theorem aoG {W w' : World} {G' : bT} {H' : Heap} (aa : bb (C fun b => W.heap[b]?) id G' H' w') {name : String} {k : IntKind} {dc : List Int} (h : Lib.TabIs Tryz.prog W name k dc) : Lib.TabIs Tryz.prog w' name k dc := by
 unfold Lib.TabIs World.var? at h ⊢
 cases bt : Tryz.prog.globalNamed name with
 | none => rw [bt] at h; cases h
 | some g =>
   rw [bt] at h
   simp only [aW] at h ⊢
   have hb : g < W.heap.size := by
    rcases gg g W.heap.size with q | q
    · exact q
    · rw [E8 q] at h; cases h
   rw [E7 aa hb]; exact h
section
variable {W : World} {H : Type} {enc : TypeId × Value -> H}
theorem YM {w' : World} {T : TypeId -> Prop} (K : Kids Tryz.prog T) (dP : ∀ {t e : TypeId}, T t -> Tryz.prog.underlying t = some (.slice e) -> 0 < Tryz.prog.cellsOf e) {YN : Nat -> Bool} :
  ∀ {ts : List TypeId} {vs : List Value} {ds : List (DataW H)} {p : List MemPlace}, (∀ t ∈ ts, T t) -> DataW.TrodAll enc Tryz.prog W 0 (fun _ => true) true ts vs ds p -> (∀ q ∈ p, W.sameAt w' q) -> (∀ q ∈ p, YN q.block = true) ->
    DataW.TrodAll enc Tryz.prog w' 0 YN true ts vs ds p
 | [], vs, ds, p, _, h, _, _ => by
   obtain ⟨rfl, rfl, rfl⟩ := ChangeShapes.trodAll_nil h
   rfl
 | t :: ts, vs, ds, p, hT, h, hs, hp => by
   obtain ⟨v, vs', d, ds', a, b, rfl, rfl, rfl, ⟨fuel, h1⟩, h2⟩ := ChangeShapes.trodAll_cons h
   refine ⟨a, b, ⟨fuel, DataW.trod_stays K dP (fun h => by cases h) (hT t (by simp)) h1 (fun q bD => hs q (by simp [bD])) (fun q bD => hp q (by simp [bD]))⟩, YM K dP (fun u hu => hT u (by simp [hu])) h2 (fun q bD => hs q (by simp [bD])) (fun q bD => hp q (by simp [bD])), rfl⟩
end
set_option maxRecDepth 100000 in
theorem laidOut : laidOutB Tryz.prog = true := by kernel_rfl
theorem aoH : mapsRowed Tryz.prog = true := by kernel_rfl
theorem kids : Kids Tryz.prog (· < Tryz.prog.types.size) := kids_rows laidOut aoH
theorem aoI : ((List.range Tryz.prog.types.size).all fun t => match Tryz.prog.underlying t with | some (.slice e) => decide (0 < Tryz.prog.cellsOf e) | _ => true) = true := by kernel_rfl
theorem aoJ {t e : TypeId} (h : t < Tryz.prog.types.size) (hu : Tryz.prog.underlying t = some (.slice e)) : 0 < Tryz.prog.cellsOf e := by
 have := fo.1 aoI t (JS.2 h)
 rw [hu] at this
 simpa using this
theorem aoK {W w' : World} {G' : bT} {H' : Heap} (aa : bb (C fun b => W.heap[b]?) id G' H' w') {q : MemPlace} (hb : q.block < W.heap.size) : W.sameAt w' q := by
 cases q with
 | cell b off => exact aoA aa hb
 | map b => exact E7 aa hb
theorem aoL {W w' : World} {G' : bT} {H' : Heap} (aa : bb (C fun b => W.heap[b]?) id G' H' w') {a : Addr} (hb : a.block < W.heap.size) : w'.frozen? a = W.frozen? a := by
 unfold World.frozen?; rw [E7 aa hb]
end Go.Abs.U
namespace Go.Abs.U
open Go Go.Abs Go.Proofs
set_option maxRecDepth 100000
theorem r0 {H A : Type} {P : Program} {t e : TypeId} {es : Nat} {f : A -> V} {d : DataW H} {l : List V} (ht : P.underlying t = some (.slice e)) (fL : P.cellsOf e = es) (he : ∀ (d : DataW H) l, e4 P e d l -> ∃ a : A, rZ l = f a) (h : e4 P t d l) : ∃ s : ak A, l = [bP es f s] := by
 rcases aoy ht h with ⟨-, rfl⟩ | ⟨elems, spare, ls, -, rfl, hl, hr⟩
 · exact ⟨.nil, rfl⟩
 · have : ∀ (ls : List (List V)), (∀ l ∈ ls, ∃ a : A, rZ l = f a) -> ∃ xs : List A, ls.map rZ = xs.map f := by
    intro ls
    induction ls with
    | nil => exact fun _ => ⟨[], rfl⟩
    | cons l ls ih =>
      intro h
      obtain ⟨a, ao⟩ := h l (by simp)
      obtain ⟨xs, hx⟩ := ih fun l hl => h l (by simp [hl])
      exact ⟨a :: xs, by rw [eD, eD, ao, hx]⟩
   obtain ⟨xs, hx⟩ := this ls fun l Jz => by
    obtain ⟨i, hi⟩ := List.getElem?_of_mem Jz
    have qu : i < ls.length := (fy.1 hi).1
    exact he _ l (hr i _ l (oV (by omega)) hi)
   exact ⟨.mk xs, by rw [hx, fL]; rfl⟩
theorem wV {α : Type} {l : List α} (h : l.length = 2) : ∃ a0 al, l = [a0, al] := by
 match l, h with
 | [a0, al], _ => exact ⟨a0, al, rfl⟩
theorem tb {α : Type} {l : List α} (h : l.length = 3) : ∃ a0 al a2, l = [a0, al, a2] := by
 match l, h with
 | [a0, al, a2], _ => exact ⟨a0, al, a2, rfl⟩
theorem JA {α : Type} {l : List α} (h : l.length = 5) : ∃ a0 al a2 a3 a4, l = [a0, al, a2, a3, a4] := by
 match l, h with
 | [a0, al, a2, a3, a4], _ => exact ⟨a0, al, a2, a3, a4, rfl⟩
theorem YO {α : Type} {l : List α} (h : l.length = 7) : ∃ a0 al a2 a3 a4 a5 Bp, l = [a0, al, a2, a3, a4, a5, Bp] := by
 match l, h with
 | [a0, al, a2, a3, a4, a5, Bp], _ => exact ⟨a0, al, a2, a3, a4, a5, Bp, rfl⟩
section
variable {W : World} {H : Type} {enc : TypeId × Value -> H}
theorem JB {d : DataW H} {l : List V} (h : e4 Tryz.prog 22 d l) : ∃ s : ak Int, l = [bP 1 aI s] :=
 r0 Tryz.underlying22 (by kernel_rfl) (fun d l h => by obtain ⟨n, -, rfl, -⟩ := kE Tryz.underlying3 h; exact ⟨n, rfl⟩) h
theorem aoM {d : DataW H} {l : List V} (h : e4 Tryz.prog 101 d l) : ∃ x : Range, l = aG (pA x) := by
 obtain ⟨parts, ls, -, rfl, hp, hl, hr⟩ := qM Tryz.underlying101 h
 obtain ⟨p0, p1, rfl⟩ := wV hp
 obtain ⟨oz, b2, rfl⟩ := wV hl
 obtain ⟨b8, -, rfl, -⟩ := kE Tryz.underlying3 (hr 0 _ _ _ rfl rfl rfl)
 obtain ⟨bu, -, rfl, -⟩ := kE Tryz.underlying3 (hr 1 _ _ _ rfl rfl rfl)
 exact ⟨⟨b8, bu⟩, rfl⟩
theorem aoN {d : DataW H} {l : List V} (h : e4 Tryz.prog 117 d l) : ∃ x : Table, l = aG (kU x) := by
 obtain ⟨parts, ls, -, rfl, hp, hl, hr⟩ := qM Tryz.underlying117 h
 obtain ⟨p0, p1, p2, p3, lu, rfl⟩ := JA hp
 obtain ⟨oz, b2, jZ, IU, Jt, rfl⟩ := JA hl
 obtain ⟨b8, -, rfl⟩ := Pw Tryz.underlying9 (hr 0 _ _ _ rfl rfl rfl)
 obtain ⟨bu, -, rfl, -⟩ := kE Tryz.underlying3 (hr 1 _ _ _ rfl rfl rfl)
 obtain ⟨cq, rfl⟩ := JB (hr 2 _ _ _ rfl rfl rfl)
 obtain ⟨dd, rfl⟩ := aoM (hr 3 _ _ _ rfl rfl rfl)
 obtain ⟨kc, -, rfl, -⟩ := kE Tryz.underlying3 (hr 4 _ _ _ rfl rfl rfl)
 exact ⟨⟨b8, bu, cq, dd, kc⟩, rfl⟩
theorem aoO {d : DataW H} {l : List V} (h : e4 Tryz.prog 23 d l) : ∃ s : ak Table, l = [bP 6 kU s] :=
 r0 Tryz.underlying23 (by kernel_rfl) (fun d l h => by obtain ⟨x, rfl⟩ := aoN h; exact ⟨x, rfl⟩) h
theorem aoP {d : DataW H} {l : List V} (h : e4 Tryz.prog 24 d l) : ∃ s : ak bQ, l = [bP 1 V.str s] :=
 r0 Tryz.underlying24 (by kernel_rfl) (fun d l h => by obtain ⟨n, -, rfl⟩ := Pw Tryz.underlying9 h; exact ⟨n, rfl⟩) h
theorem aoQ {d : DataW H} {l : List V} (h : e4 Tryz.prog 123 d l) : ∃ x : Term, l = aG (sL x) := by
 obtain ⟨parts, ls, -, rfl, hp, hl, hr⟩ := qM Tryz.underlying123 h
 obtain ⟨p0, p1, rfl⟩ := wV hp
 obtain ⟨oz, b2, rfl⟩ := wV hl
 obtain ⟨b8, -, rfl, -⟩ := kE Tryz.underlying3 (hr 0 _ _ _ rfl rfl rfl)
 obtain ⟨bu, -, rfl, -⟩ := kE Tryz.underlying3 (hr 1 _ _ _ rfl rfl rfl)
 exact ⟨⟨b8, bu⟩, rfl⟩
theorem aDU {d : DataW H} {l : List V} (h : e4 Tryz.prog 73 d l) : ∃ s : ak Term, l = [bP 2 sL s] :=
 r0 Tryz.underlying73 (by kernel_rfl) (fun d l h => by obtain ⟨x, rfl⟩ := aoQ h; exact ⟨x, rfl⟩) h
theorem YP {d : DataW H} {l : List V} (h : e4 Tryz.prog 75 d l) : ∃ x : Row, l = aG (sM x) := by
 obtain ⟨parts, ls, -, rfl, hp, hl, hr⟩ := qM Tryz.underlying75 h
 obtain ⟨p0, p1, rfl⟩ := wV hp
 obtain ⟨oz, b2, rfl⟩ := wV hl
 obtain ⟨b8, rfl⟩ := aDU (hr 0 _ _ _ rfl rfl rfl)
 obtain ⟨bu, -, rfl, -⟩ := kE Tryz.underlying3 (hr 1 _ _ _ rfl rfl rfl)
 exact ⟨⟨b8, bu⟩, rfl⟩
theorem aoS {d : DataW H} {l : List V} (h : e4 Tryz.prog 77 d l) : ∃ x : Constraint, l = aG (rD x) := by
 obtain ⟨parts, ls, -, rfl, hp, hl, hr⟩ := qM Tryz.underlying77 h
 obtain ⟨p0, p1, p2, p3, lu, rfl⟩ := JA hp
 obtain ⟨oz, b2, jZ, IU, Jt, rfl⟩ := JA hl
 obtain ⟨b8, -, rfl, -⟩ := kE Tryz.underlying3 (hr 0 _ _ _ rfl rfl rfl)
 obtain ⟨bu, -, rfl, -⟩ := kE Tryz.underlying3 (hr 1 _ _ _ rfl rfl rfl)
 obtain ⟨cq, rfl⟩ := YP (hr 2 _ _ _ rfl rfl rfl)
 obtain ⟨dd, -, rfl, -⟩ := kE Tryz.underlying3 (hr 3 _ _ _ rfl rfl rfl)
 obtain ⟨kc, -, rfl, -⟩ := kE Tryz.underlying3 (hr 4 _ _ _ rfl rfl rfl)
 exact ⟨⟨b8, bu, cq, dd, kc⟩, rfl⟩
theorem aoT {d : DataW H} {l : List V} (h : e4 Tryz.prog 25 d l) : ∃ s : ak Constraint, l = [bP 6 rD s] :=
 r0 Tryz.underlying25 (by kernel_rfl) (fun d l h => by obtain ⟨x, rfl⟩ := aoS h; exact ⟨x, rfl⟩) h
theorem aoU {d : DataW H} {l : List V} (h : e4 Tryz.prog 79 d l) : ∃ x : cG, l = aG (rE x) := by
 obtain ⟨parts, ls, -, rfl, hp, hl, hr⟩ := qM Tryz.underlying79 h
 obtain ⟨p0, p1, p2, rfl⟩ := tb hp
 obtain ⟨oz, b2, jZ, rfl⟩ := tb hl
 obtain ⟨b8, -, rfl⟩ := Pw Tryz.underlying9 (hr 0 _ _ _ rfl rfl rfl)
 obtain ⟨bu, -, rfl⟩ := aox Tryz.underlying4 (hr 1 _ _ _ rfl rfl rfl)
 obtain ⟨cq, rfl⟩ := JB (hr 2 _ _ _ rfl rfl rfl)
 exact ⟨⟨b8, bu, cq⟩, rfl⟩
theorem aoV {d : DataW H} {l : List V} (h : e4 Tryz.prog 26 d l) : ∃ s : ak cG, l = [bP 3 rE s] :=
 r0 Tryz.underlying26 (by kernel_rfl) (fun d l h => by obtain ⟨x, rfl⟩ := aoU h; exact ⟨x, rfl⟩) h
theorem aoW {d : DataW H} {l : List V} (h : e4 Tryz.prog 212 d l) : ∃ x : Change, l = aG (sN x) := by
 obtain ⟨parts, ls, -, rfl, hp, hl, hr⟩ := qM Tryz.underlying212 h
 obtain ⟨p0, p1, rfl⟩ := wV hp
 obtain ⟨oz, b2, rfl⟩ := wV hl
 obtain ⟨b8, -, rfl, -⟩ := kE Tryz.underlying3 (hr 0 _ _ _ rfl rfl rfl)
 obtain ⟨bu, -, rfl, -⟩ := kE Tryz.underlying3 (hr 1 _ _ _ rfl rfl rfl)
 exact ⟨⟨b8, bu⟩, rfl⟩
theorem aDV {d : DataW H} {l : List V} (h : e4 Tryz.prog 64 d l) : ∃ s : ak Change, l = [bP 2 sN s] :=
 r0 Tryz.underlying64 (by kernel_rfl) (fun d l h => by obtain ⟨x, rfl⟩ := aoW h; exact ⟨x, rfl⟩) h
theorem aDW {d : DataW H} {l : List V} (h : e4 Tryz.prog 65 d l) : ∃ s : ak Row, l = [bP 2 sM s] :=
 r0 Tryz.underlying65 (by kernel_rfl) (fun d l h => by obtain ⟨x, rfl⟩ := YP h; exact ⟨x, rfl⟩) h
theorem aoZ {d : DataW H} {l : List V} (h : e4 Tryz.prog 192 d l) : ∃ x : jt, l = aG (sO x) := by
 obtain ⟨parts, ls, -, rfl, hp, hl, hr⟩ := qM Tryz.underlying192 h
 obtain ⟨p0, p1, p2, rfl⟩ := tb hp
 obtain ⟨oz, b2, jZ, rfl⟩ := tb hl
 obtain ⟨b8, -, rfl, -⟩ := kE Tryz.underlying3 (hr 0 _ _ _ rfl rfl rfl)
 obtain ⟨bu, -, rfl, -⟩ := kE Tryz.underlying3 (hr 1 _ _ _ rfl rfl rfl)
 obtain ⟨cq, -, rfl, -⟩ := kE Tryz.underlying3 (hr 2 _ _ _ rfl rfl rfl)
 exact ⟨⟨b8, bu, cq⟩, rfl⟩
theorem aDX {d : DataW H} {l : List V} (h : e4 Tryz.prog 66 d l) : ∃ s : ak jt, l = [bP 3 sO s] :=
 r0 Tryz.underlying66 (by kernel_rfl) (fun d l h => by obtain ⟨x, rfl⟩ := aoZ h; exact ⟨x, rfl⟩) h
theorem ao1 {d : DataW H} {l : List V} (h : e4 Tryz.prog 68 d l) : ∃ x : dM, l = aG (Ar x) := by
 obtain ⟨parts, ls, -, rfl, hp, hl, hr⟩ := qM Tryz.underlying68 h
 obtain ⟨p0, p1, p2, rfl⟩ := tb hp
 obtain ⟨oz, b2, jZ, rfl⟩ := tb hl
 obtain ⟨b8, rfl⟩ := aDV (hr 0 _ _ _ rfl rfl rfl)
 obtain ⟨bu, rfl⟩ := aDW (hr 1 _ _ _ rfl rfl rfl)
 obtain ⟨cq, rfl⟩ := aDX (hr 2 _ _ _ rfl rfl rfl)
 exact ⟨⟨b8, bu, cq⟩, rfl⟩
theorem ao2 {d : DataW H} {l : List V} (h : e4 Tryz.prog 70 d l) : ∃ x : Action, l = aG (rF x) := by
 obtain ⟨parts, ls, -, rfl, hp, hl, hr⟩ := qM Tryz.underlying70 h
 obtain ⟨p0, p1, p2, rfl⟩ := tb hp
 obtain ⟨oz, b2, jZ, rfl⟩ := tb hl
 obtain ⟨b8, -, rfl, -⟩ := kE Tryz.underlying3 (hr 0 _ _ _ rfl rfl rfl)
 obtain ⟨bu, rfl⟩ := JB (hr 1 _ _ _ rfl rfl rfl)
 obtain ⟨cq, rfl⟩ := ao1 (hr 2 _ _ _ rfl rfl rfl)
 exact ⟨⟨b8, bu, cq⟩, rfl⟩
theorem ao3 {d : DataW H} {l : List V} (h : e4 Tryz.prog 27 d l) : ∃ s : ak Action, l = [bP 5 rF s] :=
 r0 Tryz.underlying27 (by kernel_rfl) (fun d l h => by obtain ⟨x, rfl⟩ := ao2 h; exact ⟨x, rfl⟩) h
theorem ao4 {d : DataW H} {l : List V} (h : e4 Tryz.prog 172 d l) : ∃ x : fN, l = aG (iF x) := by
 obtain ⟨parts, ls, -, rfl, hp, hl, hr⟩ := qM Tryz.underlying172 h
 obtain ⟨p0, p1, p2, rfl⟩ := tb hp
 obtain ⟨oz, b2, jZ, rfl⟩ := tb hl
 obtain ⟨b8, -, rfl, -⟩ := kE Tryz.underlying3 (hr 0 _ _ _ rfl rfl rfl)
 obtain ⟨bu, -, rfl, -⟩ := kE Tryz.underlying3 (hr 1 _ _ _ rfl rfl rfl)
 obtain ⟨cq, -, rfl, -⟩ := kE Tryz.underlying3 (hr 2 _ _ _ rfl rfl rfl)
 exact ⟨⟨b8, bu, cq⟩, rfl⟩
theorem ao5 {d : DataW H} {l : List V} (h : e4 Tryz.prog 28 d l) : ∃ s : ak fN, l = [bP 3 iF s] :=
 r0 Tryz.underlying28 (by kernel_rfl) (fun d l h => by obtain ⟨x, rfl⟩ := ao4 h; exact ⟨x, rfl⟩) h
theorem ao6 {d : DataW H} {l : List V} (h : e4 Tryz.prog 30 d l) : ∃ x : Model, l = aG (uF x) := by
 obtain ⟨parts, ls, -, rfl, hp, hl, hr⟩ := qM Tryz.underlying30 h
 obtain ⟨p0, p1, p2, p3, lu, rM, Ey, rfl⟩ := YO hp
 obtain ⟨oz, b2, jZ, IU, Jt, zf, wQ, rfl⟩ := YO hl
 obtain ⟨b8, rfl⟩ := JB (hr 0 _ _ _ rfl rfl rfl)
 obtain ⟨bu, rfl⟩ := aoO (hr 1 _ _ _ rfl rfl rfl)
 obtain ⟨cq, rfl⟩ := aoP (hr 2 _ _ _ rfl rfl rfl)
 obtain ⟨dd, rfl⟩ := aoT (hr 3 _ _ _ rfl rfl rfl)
 obtain ⟨kc, rfl⟩ := aoV (hr 4 _ _ _ rfl rfl rfl)
 obtain ⟨eM, rfl⟩ := ao3 (hr 5 _ _ _ rfl rfl rfl)
 obtain ⟨nV, rfl⟩ := ao5 (hr 6 _ _ _ rfl rfl rfl)
 exact ⟨⟨b8, bu, cq, dd, kc, eM, nV⟩, rfl⟩
theorem ao7 : wU Tryz.prog 12 30 = true := by kernel_rfl
theorem ao8 : 30 < Tryz.prog.types.size := of_decide_eq_true (by kernel_rfl)
theorem ao9 {b : Nat} {v : Value} (hval : Value.okWide Tryz.prog W .any b 30 v) : ∃ cs, v = .agg cs := by
 unfold Value.okWide at hval
 rw [Tryz.underlying30] at hval
 cases v <;> first | exact ⟨_, rfl⟩ | (simp at hval)
theorem apa {b : Nat} {v : Value} (hval : Value.okWide Tryz.prog W .any b 30 v) {d : DataW H} {p : List MemPlace} {held : Bool} (hd : DataW.Trod enc Tryz.prog W 0 (fun _ => true) held 30 v d p) : ∃ m : Model, fE W (ue W).I (uF m) v := by
 obtain ⟨cs, rfl⟩ := ao9 hval
 obtain ⟨fuel, hd⟩ := hd
 obtain ⟨vs, bG, ch, -⟩ := reads laidOut 12 fuel 30 _ _ ao8 ao7 hd
 obtain ⟨m, rfl⟩ := ao6 bG
 exact ⟨m, .agg _ cs.toList ch⟩
end
end Go.Abs.U
namespace Go.Abs.U
open Go Go.Abs Go.Proofs
set_option maxRecDepth 100000
section
variable {W : World} {H : Type} {enc : TypeId × Value -> H}
theorem aue {b : Nat} {v : Value} (hval : Value.okWide Tryz.prog W .any b 5 v) {d : DataW H} {p : List MemPlace} {held : Bool} (hd : DataW.Trod enc Tryz.prog W 0 (fun _ => true) held 5 v d p) : ∃ n : Int, (0 <= n /\ n <= 255) /\ fE W (ue W).I (.int .u8 n) v := by
 unfold Value.okWide at hval
 rw [Tryz.underlying5] at hval
 cases v <;> simp [Cell.okWide, Cell.ok, Tryz.underlying5] at hval
 obtain ⟨rfl, h⟩ := hval
 refine ⟨_, ?_, .int _ _⟩
 have h1 := h.1
 have h2 := h.2
 simp [IntKind.min, IntKind.max, IntKind.signed, IntKind.bits] at h1 h2
 omega
def Vn (P : Program) (t : TypeId) (d : DataW H) : Prop := ∀ n ∈ d.weights P t, n <= reachBytes
theorem aDY {ts : List TypeId} {ds : List (DataW H)} (h : (DataW.weightsEach Tryz.prog ts ds).all (· <= reachBytes) = true) {j : Nat} {t : TypeId} {d : DataW H} (ht : ts[j]? = some t) (hd : ds[j]? = some d) : Vn Tryz.prog t d := fun n hn => by
 have := fo.1 h n (DataW.weights_mem_each ht hd n hn)
 simpa using this
theorem aDZ {t e : TypeId} {elems spare : List (DataW H)} (ht : Tryz.prog.underlying t = some (.slice e)) (hb : 1 <= Tryz.prog.bytesOf e) (h : Vn Tryz.prog t (.slice elems spare)) : elems.length < 4611686018427387904 := by
 have h1 := h _ (aDS ht)
 have h2 := reachBytes_lt
 have av : elems.length * 1 <= (elems.length + spare.length) * Tryz.prog.bytesOf e := Nat.mul_le_mul (by omega) hb
 omega
theorem ay4 {elems : List (DataW H)} : ∀ {ls : List (List V)}, (∀ l ∈ ls, ∃ n : Int, l = [aI n]) -> ∃ xs : List Int, ls.map rZ = xs.map aI /\ xs.length = ls.length
 | [], _ => ⟨[], rfl, rfl⟩
 | l :: ls, h => by
   obtain ⟨n, rfl⟩ := h l (by simp)
   obtain ⟨xs, h1, h2⟩ := ay4 (elems := elems) (ls := ls) fun m hm => h m (by simp [hm])
   exact ⟨n :: xs, by rw [eD, eD, h1]; rfl, by simp [h2]⟩
theorem aD0 : wU Tryz.prog 8 22 = true := by kernel_rfl
theorem aD1 : 22 < Tryz.prog.types.size := of_decide_eq_true (by kernel_rfl)
theorem aD2 {b : Nat} {v : Value} (hval : Value.okWide Tryz.prog W .any b 22 v) : v.cells.toList = [v] := by
 unfold Value.okWide at hval
 rw [Tryz.underlying22] at hval
 simp only [Cell.okWide, Tryz.underlying22] at hval
 cases v <;> first | rfl | (simp [Cell.ok, Tryz.underlying22] at hval)
theorem aD3 {b : Nat} {v : Value} (hval : Value.okWide Tryz.prog W .any b 22 v) {d : DataW H} {p : List MemPlace} {held : Bool} (hd : DataW.Trod enc Tryz.prog W 0 (fun _ => true) held 22 v d p) (hn : Vn Tryz.prog 22 d) : ∃ s : ak Int, bl s.l /\ fE W (ue W).I (bP 1 aI s) v := by
 obtain ⟨lD, h, h2⟩ := aDT laidOut aD1 aD0 (aD2 hval) hd
 rcases aoy Tryz.underlying22 h with ⟨rfl, af⟩ | ⟨elems, spare, ls, rfl, af, hl, hr⟩
 · cases af
   exact ⟨.nil, by unfold bl; decide, h2⟩
 · cases af
   have hlen := aDZ Tryz.underlying22 (of_decide_eq_true (by kernel_rfl)) hn
   rw [show Tryz.prog.cellsOf 3 = 1 by kernel_rfl] at h2
   obtain ⟨xs, av, bc⟩ := ay4 (elems := elems) (ls := ls) fun l Jz => by
    obtain ⟨i, hi⟩ := List.getElem?_of_mem Jz
    have qu : i < ls.length := (fy.1 hi).1
    obtain ⟨n, -, rfl, -⟩ := kE Tryz.underlying3 (hr i _ l (oV (by omega)) hi)
    exact ⟨n, rfl⟩
   refine ⟨.mk xs, by show xs.length < _; omega, ?_⟩
   rw [av] at h2
   exact h2
end
end Go.Abs.U
