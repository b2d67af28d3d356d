/- Texts of this claim, joined and written short by a program. -/
import Derived.Test.YtaenhebjdjpdgaaGreatDoorP10
import Derived.Test.YtaenhebjdjpdgaaGreatDoorP11
import Derived.Lib.ItoaNum
import Derived.Below
import Derived.Test.YtaenhebjdjpdgaaGreatDoorP01
import Derived.Test.YtaenhebjdjpdgaaGreatDoorP00
set_option linter.unusedVariables false
set_option linter.unusedSimpArgs false
namespace Go.Abs.b1
open Go Go.Abs Go.Proofs
variable {fid : Nat -> Nat} {g : Nat -> Option Obj}
set_option maxRecDepth 100000 in
theorem vU {i : Nat} {fn : Func} (ae : Tryz.prog.funcs[i]? = some fn) (hb : fn.body.isSome = true) (hn : (fn.name == "runtime.NumGoroutine") = false) {R : Value -> World -> Prop} {xs : List Value} {w : World}
  (h : Calls Tryz.prog i ⟨xs⟩ w fun e w' => ∃ x, e = .returned x /\ R x w') : q5 (C g).P R ((callFunc i ⟨xs⟩).run (C g).P w) := by
 obtain ⟨c, hc⟩ := Option.isSome_iff_exists.1 hb
 rw [Cx (C := C g) ae hc hn]; exact h
theorem vV {w : World} {I : Nat -> Prop} {s : List UInt8} {x : Value} (h : fE w I (.str s) x) : x = .string ⟨⟨s⟩⟩ := by cases h; rfl
theorem SN : Tryz.f48.body.isSome = true := by kernel_rfl
theorem SP : (Tryz.f48.name == "runtime.NumGoroutine") = false := by kernel_rfl
theorem adH : Tryz.f247.body.isSome = true := by kernel_rfl
theorem adI : (Tryz.f247.name == "runtime.NumGoroutine") = false := by kernel_rfl
theorem adJ : Tryz.f162.body.isSome = true := by kernel_rfl
theorem adK : (Tryz.f162.name == "runtime.NumGoroutine") = false := by kernel_rfl
theorem adL : Tryz.f244.body.isSome = true := by kernel_rfl
theorem adM : (Tryz.f244.name == "runtime.NumGoroutine") = false := by kernel_rfl
theorem adN {ds : List V} {l : List (List UInt8)} (h : strs ds = some l) : ds = l.map .str := by
 induction ds generalizing l with
 | nil => cases h; rfl
 | cons v r ih =>
   cases v <;> first | (cases h; done) | skip
   simp only [strs] at h
   obtain ⟨m, hm, rfl⟩ := cD.1 h
   rw [ih hm]; rfl
theorem SQ {w : World} {I : Nat -> Prop} : ∀ {l : List (List UInt8)} {vals : List Value}, c6 w I ((l.map V.str).flatMap aG) vals -> vals = l.map fun s => Value.string ⟨⟨s⟩⟩
 | [], vals, h => by cases h; rfl
 | s :: r, vals, h => by
   rw [eD, kF] at h
   cases h with
   | cons _ x _ xs h1 U =>
     obtain rfl := vV h1
     rw [SQ U]; rfl
set_option maxRecDepth 100000 in
theorem adO : nL (C g) id 48 Ka := by
 intro G H w args v xs aa eJ hs
 unfold Ka at hs
 split at hs
 · rename_i sep
   cases hs
   cases eJ with
   | cons _ x _ xs h1 gn =>
     cases gn with
     | cons _ y _ cN U oh =>
       cases oh
       cases h1
       obtain rfl := vV U
       refine vU Tryz.func48 SN SP ((Tryz.strings_Join_none none 0 _ w).mono ?_)
       rintro e w' ⟨rfl, rfl⟩
       exact ⟨_, rfl, G, aa, fun m _ => .refl _ _ _ _, .p _ _ (.str [])⟩
 · rename_i es ds sep
   split at hs
   · rename_i l hl
     split at hs
     · rename_i hc
       obtain ⟨rfl, bA, iZ, oj⟩ := hc
       cases hs
       obtain rfl := adN hl
       cases eJ with
       | cons _ x _ xs h1 gn =>
         cases gn with
         | cons _ y _ cN U oh =>
           cases oh
           obtain rfl := vV U
           generalize kQ : l.map V.str = D at h1
           cases h1 with
           | tB _ a cap => exact absurd (List.map_eq_nil_iff.1 kQ) bA
           | list _ _ b o cap vals aZ j2 hu hr adP =>
             subst kQ
             obtain rfl := SQ hr
             have CQ : ((l.map fun s => (⟨⟨s⟩⟩ : ByteArray)).map (·.data.toList)) = l := by rw [qR]; exact List.map_id l
             have hj := Tryz.strings_Join b o cap (l.map fun s => ⟨⟨s⟩⟩) ⟨⟨sep⟩⟩ w (fun j y hy => by
              refine j2 j _ ?_
              simp only [kh] at hy ⊢
              cases aP : l[j]? with
              | none => rw [aP] at hy; cases hy
              | some z => rw [aP] at hy; cases hy; rfl) (aa.cX b aZ).1 (by simp; omega) (by simpa using adP) (by rw [CQ]; simp only [PF]; omega)
             rw [CQ] at hj
             simp only [n4] at hj ⊢
             refine vU Tryz.func48 SN SP (hj.mono ?_)
             rintro e w' ⟨rfl, hb⟩
             exact ⟨_, rfl, G, aa.restore hb.size hb.block, fun m _ => .restore hb.size hb.block hb.os hb.output m _, .p _ _ (.str (Lib.join l sep))⟩
     · cases hs
   · cases hs
 · cases hs
theorem adQ : Tryz.f47.body.isSome = true := by kernel_rfl
theorem adR : (Tryz.f47.name == "runtime.NumGoroutine") = false := by kernel_rfl
set_option maxRecDepth 100000 in
theorem adS : nL (C g) id 47 Kb := by
 intro G H w args v xs aa eJ hs
 unfold Kb at hs
 split at hs
 · rename_i n
   split at hs
   · rename_i hn
     cases hs
     obtain ⟨k, rfl⟩ := Pz hn.1
     cases eJ with
     | cons _ x _ xs h1 gn =>
       cases gn
       cases h1
       have ai : k < 10 := by omega
       refine vU Tryz.func47 adQ adR ((Tryz.strconv_Itoa_small k (by omega) w).mono ?_)
       rintro e w' ⟨rfl, rfl⟩
       rw [Lib.decDigits_one ai]
       exact ⟨_, rfl, G, aa, fun m _ => .refl _ _ _ _, .p _ _ (.str _)⟩
   · cases hs
 · cases hs
set_option maxRecDepth 100000 in
theorem adT : nL (C g) id 247 FA := by
 intro G H w args v xs aa eJ hs
 unfold FA at hs
 split at hs
 · rename_i s c
   cases hs
   cases eJ with
   | cons _ x _ xs h1 gn =>
     cases gn with
     | cons _ y _ cN U oh =>
       cases oh
       cases U
       obtain rfl := vV h1
       refine vU Tryz.func247 adH adI ((Tryz.strings_IndexByte _ c w).mono ?_)
       rintro e w' ⟨rfl, rfl⟩
       exact ⟨_, rfl, G, aa, fun m _ => .refl _ _ _ _, .p _ _ (.int .i64 _)⟩
 · cases hs
set_option maxRecDepth 100000 in
theorem adU : nL (C g) id 162 J9 := by
 intro G H w args v xs aa eJ hs
 unfold J9 at hs
 split at hs
 · rename_i s
   split at hs
   · rename_i hl
     obtain ⟨n, hn, rfl⟩ := cD.1 hs
     cases eJ with
     | cons _ x _ xs h1 gn =>
       cases gn
       obtain rfl := vV h1
       refine vU Tryz.func162 adJ adK ((Tryz.strconv_Atoi ⟨⟨s⟩⟩ n hl hn w).mono ?_)
       rintro e w' ⟨rfl, t, rfl⟩
       have dP : w.heap.size <= (Lib.bytesWorld w 5 t).heap.size := by
        unfold Lib.bytesWorld World.freeze
        have h0 : w.drew.heap = w.heap := rfl
        split <;> simp [h0]
       have ai : ∀ b, b < w.heap.size -> (Lib.bytesWorld w 5 t).heap[b]? = w.heap[b]? := fun b hb => by
        have h1 : (w.drew.alloc (.cells (Lib.bytesCells w 5 t) 5)).heap[b]? = w.heap[b]? := alloc_old (w := w.drew) hb
        unfold Lib.bytesWorld World.freeze
        split
        · exact h1
        · show (Array.modify _ _ _)[b]? = _
          rw [Array.getElem?_modify, if_neg (fun e => by have e' : w.heap.size = b := e
                                                         omega)]
          exact h1
       have zD : (Lib.bytesWorld w 5 t).os = w.os /\ (Lib.bytesWorld w 5 t).tape = w.tape /\ (Lib.bytesWorld w 5 t).output = w.output := by
        unfold Lib.bytesWorld World.freeze
        split <;> exact ⟨rfl, rfl, rfl⟩
       refine ⟨_, rfl, G, aa.restore dP ai, fun m _ => .restore dP ai zD.1 zD.2.2 m _, .p _ _ (.ba _ _ (.cons _ _ _ _ (.int .i64 n) (.cons _ _ _ _ .iN .nil)))⟩
   · cases hs
 · cases hs
theorem SR {w : World} {I : Nat -> Prop} : ∀ (l : List (List UInt8)), c6 w I ((l.map V.str).flatMap aG) (l.map fun x => Value.string ⟨x.toArray⟩)
 | [] => .nil
 | a :: l => .cons _ _ _ _ (.str a) (SR l)
set_option maxRecDepth 100000 in
theorem adV (uf : ∀ (G : bT) (H : Heap) (w : World), bb (C g) id G H w -> Lib.TabIs Tryz.prog w "strings.asciiSpace" .u8 Lib.asciiSpaceTab) : nL (C g) id 244 Fz := by
 intro G H w args v xs aa eJ hs
 unfold Fz at hs
 split at hs
 · rename_i s
   split at hs
   · rename_i hc
     simp only [cd, decide_eq_true_eq] at hc
     cases hs
     cases eJ with
     | cons _ x _ xs h1 gn =>
       cases gn
       obtain rfl := vV h1
       refine vU Tryz.func244 adL adM ((Tryz.strings_Fields ⟨⟨s⟩⟩ w hc.2 (fun j b hb => ?_) (uf G H w aa)).mono ?_)
       · have := fo.1 hc.1 b (fm hb)
         have h' := UInt8.lt_iff_toNat_lt.1 (of_decide_eq_true this)
         simpa using h'
       rintro e w' ⟨rfl, rfl⟩
       refine ⟨_, rfl, ⟨G.β, fun b => G.I b \/ (b = w.heap.size /\ True)⟩, aa.sj _ True, fun m _ => .sj _ True m _, ?_⟩
       refine .p _ _ ?_
       cases ae : Lib.fields s with
       | nil => simp only [List.isEmpty_nil, if_true, qQ]; exact .emp _
       | cons a r =>
         simp only [List.isEmpty_cons, gX, if_false]
         rw [<- n4 (f := V.str)]
         refine .list 1 _ _ 0 _ _ (.inr ⟨rfl, trivial⟩) ?_ (fun d hd => ?_) (SR (a :: r)) (aK _)
         · intro j x hx
           rw [Qx (oe w _), eF, <- iK]
           exact hx
         · obtain ⟨y, -, rfl⟩ := ey.1 hd
           rfl
   · cases hs
 · cases hs
theorem adW : Tryz.f236.body.isSome = true := by kernel_rfl
theorem adX : (Tryz.f236.name == "runtime.NumGoroutine") = false := by kernel_rfl
set_option maxRecDepth 100000 in
theorem adY : nL (C g) id 236 Kc := by
 intro G H w args v xs aa eJ hs
 unfold Kc at hs
 split at hs
 · rename_i n
   have key : ∀ k : Nat, (k = 0 \/ k = 1 \/ k = 2) -> n = (k : Int) -> v = .int .i64 (k : Int) -> q5 (C g).P (kM (C g) id G H w v H H.length) ((callFunc 236 ⟨xs⟩).run (C g).P w) := fun k ai hn af => by
    subst hn; subst af
    cases eJ with
    | cons _ x _ xs h1 gn =>
      cases gn
      cases h1
      refine vU Tryz.func236 adW adX ((Tryz.bits_Len (k : Int) w (by omega) (by omega)).mono ?_)
      rintro e w' ⟨rfl, rfl⟩
      have : (Lib.bitLen (k : Int).toNat : Int) = (k : Int) := by rcases ai with rfl | rfl | rfl <;> rfl
      exact ⟨_, rfl, G, aa, fun m _ => .refl _ _ _ _, by rw [this]; exact .p _ _ (.int .i64 _)⟩
   split at hs
   · rename_i h; cases hs; exact key 0 (.inl rfl) h rfl
   · split at hs
     · rename_i h; cases hs; exact key 1 (.inr (.inl rfl)) h rfl
     · split at hs
       · rename_i h; cases hs; exact key 2 (.inr (.inr rfl)) h rfl
       · cases hs
 · cases hs
theorem adZ : Tryz.f360.body.isSome = true := by kernel_rfl
theorem ad0 : (Tryz.f360.name == "runtime.NumGoroutine") = false := by kernel_rfl
set_option maxRecDepth 100000 in
theorem ad1 : nL (C g) id 360 Kd := by
 intro G H w args v xs aa eJ hs
 unfold Kd at hs
 split at hs
 · rename_i s c
   split at hs
   · rename_i hc
     cases hs
     cases eJ with
     | cons _ x _ xs h1 gn =>
       cases gn with
       | cons _ y _ cN U oh =>
         cases oh
         obtain rfl := vV h1
         obtain rfl := vV U
         have tF : c.toNat < 128 := by simpa using UInt8.lt_iff_toNat_lt.1 hc
         refine vU Tryz.func360 adZ ad0 ((Tryz.strings_TrimLeft_one ⟨⟨s⟩⟩ c tF w).mono ?_)
         rintro e w' ⟨rfl, rfl⟩
         exact ⟨_, rfl, G, aa, fun m _ => .refl _ _ _ _, .p _ _ (.str _)⟩
   · cases hs
 · cases hs
end Go.Abs.b1
namespace Go.Abs
open Go
def xW (es : Nat) : V -> Bool
 | .c0 | .emp => true
 | .list bC _ => bC == es
 | _ => false
def el : V -> List V
 | .list _ ds => ds
 | _ => []
section
variable {call : c3} {ag : aj -> V} {H : Heap} {low : Nat}
theorem qv (x : aj) : b9 call ag H low (.mv x) = some (ag x, H, low) := rfl
theorem oD (c a b : aj) : b9 call ag H low (.pick c a b) = (o3 (ag c)).map fun t => (if t then ag a else ag b, H, low) := rfl
theorem rp (z : List V) : b9 call ag H low (.alloc z) = some (.ptr H.length 0, H ++ [.cells z], low) := rfl
theorem vW (x : aj) : b9 call ag H low (.box x) = if b4 (aG (ag x)) then some (.ptr H.length 0, H ++ [.cells (aG (ag x))], low) else none := rfl
theorem nb (sh : Option Nat) (x : aj) : b9 call ag H low (.load sh x) = (jk H sh (ag x)).map fun v => (v, H, low) := rfl
theorem lB (n : Nat) (a x : aj) : b9 call ag H low (.store n a x) = (iO H n (ag a) (ag x)).map fun (H', l) => (.undef, H', min low l) := rfl
theorem mn (op : BinOp) (x y : aj) : b9 call ag H low (.bin op x y) = (dY op (ag x) (ag y)).map fun v => (v, H, low) := rfl
theorem pt (op : UnOp) (x : aj) : b9 call ag H low (.un op x) = (o4 op (ag x)).map fun v => (v, H, low) := rfl
theorem qw (k : Nat) (neg : Bool) (x y : aj) : b9 call ag H low (.qS k neg x y) = (tt k (ag x) (ag y)).map fun e => (.bool (if neg then !e else e), H, low) := rfl
theorem Md (i : Nat) (a b : List aj) : b9 call ag H low (.r8 i a b) = some (.fn i (a.map ag) (b.map ag), H, low) := rfl
theorem SS : b9 call ag H low .mkMap = some (.map H.length, H ++ [.map []], low) := rfl
theorem rq (x : aj) (i : Nat) : b9 call ag H low (.extract x i) = match ag x with
 | .ba vs => (vs[i]?).map fun v => (v, H, low)
 | _ => none := rfl
theorem ad2 (off : Nat) (sh : Option Nat) (x : aj) : b9 call ag H low (.field off sh x) = match ag x with
 | .agg vs => (hJ vs off sh).map fun v => (v, H, low)
 | _ => none := rfl
theorem nc (off : Nat) (x : aj) : b9 call ag H low (.fieldAddr off x) = match ag x with
 | .ptr l o => some (.ptr l (o + off), H, low)
 | .gw l es i f tag => some (.gw l es i (f + off) tag, H, low)
 | .dB vs f => some (.dB vs (f + off), H, low)
 | _ => none := rfl
theorem qx (f : aj) (args : List aj) : b9 call ag H low (.call false f args) = match fe H low (args.map ag) with
 | some (vs, H', low') => match call (ag f) vs H' with
   | some (v, Fo, l) => if flat v = true /\ H'.length <= l then some (v, H, low) else some (v, Fo, min low' l)
   | none => none
 | none => none := rfl
theorem sE (f : aj) (args : List aj) : b9 call ag H low (.call true f args) = match call (ag f) (args.map ag) H with
 | some (v, H', l) => some (v, H', min low l)
 | none => none := rfl
theorem Gy (es bytes : Nat) (a b : aj) : b9 call ag H low (.append es bytes a b) = step ag H low (.append es bytes a b) := rfl
theorem SU (es : Nat) (z : List V) (n : Nat) (ps : List (Nat × aj)) (mG : Bool) : b9 call ag H low (.lit es z n ps mG) = step ag H low (.lit es z n ps mG) := rfl
theorem Me (es : Nat) (z : List V) (b : Nat) (l c : aj) : b9 call ag H low (.mkSlice es z b l c) = step ag H low (.mkSlice es z b l c) := rfl
theorem SV (es : Nat) (x : aj) (lo hi mx : Option aj) : b9 call ag H low (.r9 es x lo hi mx) = step ag H low (.r9 es x lo hi mx) := rfl
theorem Gz (k : Nat) (z : V) (x i : aj) (ok : Bool) : b9 call ag H low (.lookup k z x i ok) = step ag H low (.lookup k z x i ok) := rfl
theorem SW (k : Nat) (m x v : aj) : b9 call ag H low (.o2 k m x v) = step ag H low (.o2 k m x v) := rfl
theorem SX (m : Bool) (x y : aj) : b9 call ag H low (.tp m x y) = step ag H low (.tp m x y) := rfl
theorem SY {x : aj} (es : Nat) (h : xW es (ag x) = true) : b9 call ag H low (.len 1 x) = some (.int .i64 (el (ag x)).length, H, low) := by
 show step ag H low (.len 1 x) = _
 cases hx : ag x <;> simp_all [xW, step, el]
theorem ad3 {es : Nat} {x i : aj} (h : xW es (ag x) = true) : b9 call ag H low (.indexAddr es x i) = match jW (ag i) with
  | some k => ((el (ag x))[k]?).map fun d => (.dB (aG d) 0, H, low)
  | none => none := by
 show step ag H low (.indexAddr es x i) = _
 cases hx : ag x <;> simp_all [xW, step, el] <;> cases jW (ag i) <;> rfl
end
@[simp] theorem arh (k : IntKind) (n : Nat) : jW (.int k (n : Int)) = some n := by simp [jW]
@[simp] theorem lZ (H : Heap) : fJ H H H.length = false := by simp [fJ]
theorem wrap_small {n : Int} (h1 : -9223372036854775808 <= n) (U : n < 9223372036854775808) : IntKind.i64.wrap n = n := by
 have e : (2 ^ IntKind.i64.bits : Int) = 18446744073709551616 := rfl
 have e' : (2 ^ (IntKind.i64.bits - 1) : Int) = 9223372036854775808 := rfl
 have s : IntKind.i64.signed = true := rfl
 simp only [IntKind.wrap, e, e', s, dt, decide_eq_true_eq]
 split <;> omega
theorem fM (e : Env) (t e5 : Nat) (v : V) : bJ (fR e t v) e5 = if e5 = t then v else bJ e e5 := by
 induction e with
 | nil =>
   by_cases h : e5 = t
   · subst h; simp [fR, bJ]
   · simp [fR, bJ, h, ki h]
 | cons p r ih =>
   obtain ⟨k, u⟩ := p
   simp only [fR]
   split
   · rename_i ai
     subst ai
     by_cases h : e5 = k
     · subst h; simp [bJ]
     · simp [bJ, h, ki h]
   · rename_i ai
     simp only [bJ]
     split
     · rename_i h
       rw [if_neg (by omega)]
     · exact ih
def uA (b n i t blk ex : Nat) (body : cm) : cm :=
 .seq (.region [⟨some (b, true), .bin .lss (.var i) (.var n), none⟩] none) (.seq (.cond (.var b) (.skip) (.exit ex)) (.seq (.block blk body)
  (.region [⟨some (t, false), .bin .add (.var i) (.const (.int .i64 1)), none⟩, ⟨some (i, true), .mv (.tmp t), none⟩] none)))
theorem ad4 {ad : Nat -> Option ca} {b n i t blk ex : Nat} {body : cm} {I : Nat -> au -> Prop} {Q : X -> au -> Prop} {N : Nat} (gT : N < 4611686018427387904) (Rz : b ≠ i) (hex : ex ≠ blk)
  (aZ : ∀ k st, I k st -> bJ st.aw i = .int .i64 k /\ bJ st.aw n = .int .i64 N /\ st.low <= st.H.length)
  (round : ∀ k st, k < N -> I k st -> ∃ x gi, dO ad body { st with aE := [], aw := fR st.aw b (.bool true) } = some (x, gi) /\
    if x = .normal \/ x = .exit blk then bJ gi.aw i = .int .i64 k /\ gi.low <= gi.H.length /\ I (k + 1) { gi with aE := [], aw := fR gi.aw i (.int .i64 ((k + 1 : Nat) : Int)) } else Q x gi)
  (done : ∀ st, I N st -> Q (.exit ex) { st with aE := [], aw := fR st.aw b (.bool false) }) :
  ∀ j k st, k + j = N -> I k st -> ∃ x aU, dO ad (.loop (uA b n i t blk ex body)) st = some (x, aU) /\ Q x aU := by
 have aH : ∀ k st, I k st -> dO ad (.region [⟨some (b, true), .bin .lss (.var i) (.var n), none⟩] none) st = some (.normal, { st with aE := [], aw := fR st.aw b (.bool (decide (k < N))) }) := fun k st h => by
  obtain ⟨h1, U, av⟩ := aZ k st h
  rw [mH]
  simp [c9, gP, mn, aj.ag, h1, U, dY, au.put, nv av]
 intro j
 induction j with
 | zero =>
   intro k st ai h
   have : k = N := by omega
   subst this
   refine ⟨.exit ex, _, ?_, done st h⟩
   rw [se]
   simp only [uA]
   rw [jD, aH k st h]
   simp only []
   rw [jD, oc]
   simp [aj.ag, fM, qb]
 | succ j ih =>
   intro k st ai h
   obtain ⟨x, gi, h1, U⟩ := round k st (by omega) h
   have Gv : ∀ r, dO ad (.seq (.block blk body) (.region [⟨some (t, false), .bin .add (.var i) (.const (.int .i64 1)), none⟩, ⟨some (i, true), .mv (.tmp t), none⟩] none)) { st with aE := [], aw := fR st.aw b (.bool true) } = r ->
     dO ad (uA b n i t blk ex body) st = r := fun r hr => by
    simp only [uA]
    rw [jD, aH k st h]
    simp only []
    rw [jD, oc]
    have hd : decide (k < N) = true := by simp; omega
    simp [aj.ag, fM, qa, hd, hr]
   by_cases hx : x = .normal \/ x = .exit blk
   · rw [if_pos hx] at U
     obtain ⟨U, bc, av⟩ := U
     have Mf : dO ad (.block blk body) { st with aE := [], aw := fR st.aw b (.bool true) } = some (.normal, gi) := by
      rw [nw, h1]
      rcases hx with rfl | rfl
      · rfl
      · simp
     have ad5 : dO ad (.region [⟨some (t, false), .bin .add (.var i) (.const (.int .i64 1)), none⟩, ⟨some (i, true), .mv (.tmp t), none⟩] none) gi = some (.normal, { gi with aE := [], aw := fR gi.aw i (.int .i64 ((k + 1 : Nat) : Int)) }) := by
      have hw : IntKind.i64.wrap ((k : Int) + 1) = ((k + 1 : Nat) : Int) := by rw [wrap_small] <;> omega
      rw [mH]
      simp [c9, gP, mn, qv, aj.ag, U, dY, hw, au.put, bJ, nv bc]
     have oB := Gv _ (by rw [jD, Mf])
     simp only [ad5] at oB
     obtain ⟨gj, aU, h5, gu⟩ := ih (k + 1) _ (by omega) av
     exact ⟨gj, aU, by rw [se, oB]; exact h5, gu⟩
   · rw [if_neg hx] at U
     have Mf : dO ad (.block blk body) { st with aE := [], aw := fR st.aw b (.bool true) } = some (x, gi) := by
      rw [nw, h1]
      cases x with
      | normal => exact absurd (.inl rfl) hx
      | exit id =>
        have : id ≠ blk := fun e => hx (.inr (by rw [e]))
        simp [this]
      | ret => rfl
     have oB := Gv (some (x, gi)) (by
      rw [jD, Mf]
      cases x with
      | normal => exact absurd (.inl rfl) hx
      | exit id => rfl
      | ret => rfl)
     refine ⟨x, gi, ?_, U⟩
     rw [se, oB]
     cases x with
     | normal => exact absurd (.inl rfl) hx
     | exit id => rfl
     | ret => rfl
end Go.Abs
namespace Go.Abs
open Go
end Go.Abs
namespace Go.Abs.S
open Go Go.Abs
abbrev t0 : aj := .tmp 0
abbrev v0 : aj := .var 0
abbrev t1 : aj := .tmp 1
abbrev v1 : aj := .var 1
abbrev t2 : aj := .tmp 2
abbrev v2 : aj := .var 2
abbrev t3 : aj := .tmp 3
abbrev v3 : aj := .var 3
abbrev t4 : aj := .tmp 4
abbrev v4 : aj := .var 4
abbrev t5 : aj := .tmp 5
abbrev v5 : aj := .var 5
abbrev t6 : aj := .tmp 6
abbrev v6 : aj := .var 6
abbrev t7 : aj := .tmp 7
abbrev kp : aj := .var 7
abbrev t8 : aj := .tmp 8
abbrev sF : aj := .var 8
abbrev t9 : aj := .tmp 9
abbrev v9 : aj := .var 9
abbrev t10 : aj := .tmp 10
abbrev v10 : aj := .var 10
abbrev t11 : aj := .tmp 11
abbrev v11 : aj := .var 11
abbrev t12 : aj := .tmp 12
abbrev v12 : aj := .var 12
abbrev t13 : aj := .tmp 13
abbrev SZ : aj := .var 13
abbrev t14 : aj := .tmp 14
abbrev vX : aj := .var 14
abbrev t15 : aj := .tmp 15
abbrev ad6 : aj := .var 15
abbrev t16 : aj := .tmp 16
abbrev S0 : aj := .var 16
abbrev t17 : aj := .tmp 17
abbrev t18 : aj := .tmp 18
abbrev S1 : aj := .var 18
abbrev t19 : aj := .tmp 19
abbrev t20 : aj := .tmp 20
abbrev v20 : aj := .var 20
abbrev t21 : aj := .tmp 21
abbrev t22 : aj := .tmp 22
abbrev t23 : aj := .tmp 23
abbrev ad7 : aj := .var 23
abbrev t24 : aj := .tmp 24
abbrev t25 : aj := .tmp 25
abbrev ad8 : aj := .var 25
abbrev t26 : aj := .tmp 26
abbrev ad9 : aj := .var 26
abbrev t27 : aj := .tmp 27
abbrev aea : aj := .var 27
abbrev t28 : aj := .tmp 28
abbrev t29 : aj := .tmp 29
abbrev aeb : aj := .var 29
abbrev t30 : aj := .tmp 30
abbrev t31 : aj := .tmp 31
abbrev t32 : aj := .tmp 32
abbrev aec : aj := .var 32
abbrev t33 : aj := .tmp 33
abbrev t34 : aj := .tmp 34
abbrev t35 : aj := .tmp 35
abbrev t36 : aj := .tmp 36
abbrev t37 : aj := .tmp 37
abbrev v37 : aj := .var 37
abbrev t38 : aj := .tmp 38
abbrev t39 : aj := .tmp 39
abbrev t40 : aj := .tmp 40
abbrev t41 : aj := .tmp 41
abbrev t42 : aj := .tmp 42
abbrev t43 : aj := .tmp 43
abbrev t44 : aj := .tmp 44
abbrev aed : aj := .var 44
abbrev t45 : aj := .tmp 45
abbrev t46 : aj := .tmp 46
abbrev t47 : aj := .tmp 47
abbrev t48 : aj := .tmp 48
abbrev aee : aj := .var 48
abbrev t49 : aj := .tmp 49
abbrev t50 : aj := .tmp 50
abbrev t51 : aj := .tmp 51
abbrev t52 : aj := .tmp 52
abbrev t53 : aj := .tmp 53
abbrev t54 : aj := .tmp 54
abbrev t55 : aj := .tmp 55
abbrev t56 : aj := .tmp 56
abbrev t57 : aj := .tmp 57
abbrev t58 : aj := .tmp 58
abbrev t59 : aj := .tmp 59
abbrev t60 : aj := .tmp 60
abbrev t61 : aj := .tmp 61
abbrev t62 : aj := .tmp 62
abbrev t63 : aj := .tmp 63
abbrev t64 : aj := .tmp 64
abbrev t65 : aj := .tmp 65
abbrev t66 : aj := .tmp 66
abbrev t67 : aj := .tmp 67
abbrev t68 : aj := .tmp 68
abbrev t69 : aj := .tmp 69
abbrev t70 : aj := .tmp 70
abbrev t71 : aj := .tmp 71
abbrev t72 : aj := .tmp 72
abbrev t73 : aj := .tmp 73
abbrev t74 : aj := .tmp 74
abbrev t75 : aj := .tmp 75
abbrev t76 : aj := .tmp 76
abbrev t77 : aj := .tmp 77
abbrev t78 : aj := .tmp 78
abbrev t79 : aj := .tmp 79
abbrev t80 : aj := .tmp 80
abbrev t81 : aj := .tmp 81
abbrev aef : aj := .var 81
abbrev t82 : aj := .tmp 82
abbrev t83 : aj := .tmp 83
abbrev t84 : aj := .tmp 84
abbrev t85 : aj := .tmp 85
abbrev t86 : aj := .tmp 86
abbrev t87 : aj := .tmp 87
abbrev t88 : aj := .tmp 88
abbrev t89 : aj := .tmp 89
abbrev t90 : aj := .tmp 90
abbrev t91 : aj := .tmp 91
abbrev t92 : aj := .tmp 92
abbrev t93 : aj := .tmp 93
abbrev t94 : aj := .tmp 94
abbrev t95 : aj := .tmp 95
abbrev t96 : aj := .tmp 96
abbrev t97 : aj := .tmp 97
abbrev t98 : aj := .tmp 98
abbrev aeg : aj := .var 98
abbrev t99 : aj := .tmp 99
abbrev t100 : aj := .tmp 100
abbrev t101 : aj := .tmp 101
abbrev t102 : aj := .tmp 102
abbrev t103 : aj := .tmp 103
abbrev S2 : aj := .var 103
abbrev t104 : aj := .tmp 104
abbrev t105 : aj := .tmp 105
abbrev v105 : aj := .var 105
abbrev t107 : aj := .tmp 107
abbrev t108 : aj := .tmp 108
abbrev t109 : aj := .tmp 109
abbrev t110 : aj := .tmp 110
abbrev t111 : aj := .tmp 111
abbrev t113 : aj := .tmp 113
abbrev t114 : aj := .tmp 114
abbrev t115 : aj := .tmp 115
abbrev t121 : aj := .tmp 121
abbrev aeh : aj := .var 122
abbrev t123 : aj := .tmp 123
abbrev t124 : aj := .tmp 124
abbrev t125 : aj := .tmp 125
abbrev t126 : aj := .tmp 126
abbrev t127 : aj := .tmp 127
abbrev t128 : aj := .tmp 128
abbrev t129 : aj := .tmp 129
abbrev v130 : aj := .var 130
abbrev t131 : aj := .tmp 131
abbrev t132 : aj := .tmp 132
abbrev t134 : aj := .tmp 134
abbrev t135 : aj := .tmp 135
abbrev t136 : aj := .tmp 136
abbrev t137 : aj := .tmp 137
abbrev t139 : aj := .tmp 139
abbrev t140 : aj := .tmp 140
abbrev t141 : aj := .tmp 141
abbrev t142 : aj := .tmp 142
abbrev t143 : aj := .tmp 143
abbrev t144 : aj := .tmp 144
abbrev t145 : aj := .tmp 145
abbrev t147 : aj := .tmp 147
abbrev t148 : aj := .tmp 148
abbrev t149 : aj := .tmp 149
abbrev t150 : aj := .tmp 150
abbrev t151 : aj := .tmp 151
abbrev t154 : aj := .tmp 154
abbrev t155 : aj := .tmp 155
abbrev t156 : aj := .tmp 156
abbrev t157 : aj := .tmp 157
abbrev t158 : aj := .tmp 158
abbrev t159 : aj := .tmp 159
abbrev c (n : Int) : aj := .const (.int .i64 n)
abbrev cs (l : List UInt8) : aj := .const (.str l)
abbrev jM : aj := .const (.bool true)
abbrev kq : aj := .const (.bool false)
abbrev sG : aj := .const .c0
abbrev fn (i : Nat) : aj := .func i
def r (n : Nat) (o : cH) : b3 := ⟨some (n, false), o, none⟩
def o (n : Nat) (p : cH) : b3 := ⟨some (n, true), p, none⟩
def n (o : cH) : b3 := ⟨none, o, none⟩
def rg (n : Nat) (x : aj) (w : Bool) (o : cH) : b3 := ⟨some (n, false), o, some (x, w)⟩
def m (x : aj) : cH := .mv x
def b2 (x : aj) : cH := .load none x
def ls (k : Nat) (x : aj) : cH := .load (some k) x
def st (k : Nat) (a x : aj) : cH := .store k a x
def di (k : Nat) (x : aj) : cH := .fieldAddr k x
def kr (k : Nat) (x i : aj) : cH := .indexAddr k x i
def fs (k n : Nat) (x : aj) : cH := .field k (some n) x
def ex (x : aj) (i : Nat) : cH := .extract x i
def ia (k : Nat) (x : aj) : cH := .len k x
def eq (x y : aj) : cH := .bin .eql x y
def ne (x y : aj) : cH := .bin .neq x y
def lt (x y : aj) : cH := .bin .lss x y
def gt (x y : aj) : cH := .bin .gtr x y
def le (x y : aj) : cH := .bin .leq x y
def df (x y : aj) : cH := .bin .add x y
def no (x : aj) : cH := .un .not x
def jr (x y z : aj) : cH := .pick x y z
def gI (f : aj) (l : List aj) : cH := .call false f l
def ap (e b : Nat) (x y : aj) : cH := .append e b x y
def iU (x : aj) : cH := .box x
def xX (x : aj) : cH := .nilCheck x
def q (a b : cm) : cm := .seq a b
def R (l : List b3) : cm := .region l none
def oE (l : List b3) (b : List Nat) : cm := .region l (some b)
def iD (x : aj) (a b : cm) : cm := .cond x a b
def cj (i : Nat) (a : cm) : cm := .block i a
def k : cm := .skip
def e (i : Nat) : cm := .exit i
def rt : cm := .ret
abbrev nl : V := .c0
abbrev z : V := .int .i64 0
abbrev ld : V := .str []
abbrev em : V := .emp
end Go.Abs.S
set_option maxRecDepth 100000
namespace Go.Abs.b1
open Go Go.Abs Go.Proofs Go.Abs.S
noncomputable section
def fX : Code -> Code | .seq a _ => a | c => c
def cJ : Code -> Code | .seq _ a => a | c => c
def aei : cm := q (R [r 14 (kr 2 v10 v12), r 15 (ls 2 t14), o 5 (.alloc [z, z]), n (st 2 v5 t15)]) (R [r 16 (m v3), r 17 (di 0 v5), r 18 (b2 t17), r 19 (.lookup 0 (.int .i64 0) t16 t18 false), r 20 (di 1 v5), r 21 (b2 t20), r 22 (df t19 t21), n (.o2 0 t16 t18 t22)])
def S3 : lY := ⟨[R [o 2 (m sG)], R [r 9 (.mkMap), o 3 (m t9)], q (R [o 10 (m v0), o 11 (ia 1 v10), o 12 (m (c 0))]) (cj 0 (.loop (uA 13 11 12 23 1 0 aei))), R [o 6 (m sG)]], ⟨[r 24 (m v3)], t24, 25, (26, false), [o 27 (ex t26 0)], aea, 3, (28, false), [r 29 (ex t28 0), r 30 (ex t28 1), o 7 (m t29), o 8 (m t30)], q (R [r 31 (m sF), o 32 (ne t31 (c 0))]) (iD aec (R [r 33 (m v6), r 34 (m kp), r 35 (m sF), r 36 (.build [z, z] [(0, 1, t34), (1, 1, t35)]), r 37 (.lit 2 [z, z] 1 [(0, t36)] true), r 38 (ap 2 16 t33 t37), o 6 (m t38)]) k)⟩, q (R [r 39 (m v6), r 40 (.call true (fn 310) [t39, (fn 311)])]) (q (R [r 41 (m v6), o 2 (m t41)]) rt), [.tmp 2]⟩
def Ah : Code := Tryz.f214.body.getD .skip
theorem aej (g : Nat -> Option Obj) : Gs (C g) Tryz.f214 S3 := ⟨[fX Ah, fX (cJ Ah), fX (cJ (cJ Ah)), fX (cJ (cJ (cJ Ah)))], fX (cJ (cJ (cJ (cJ Ah)))), cJ (cJ (cJ (cJ (cJ Ah)))), by kernel_rfl, by kernel_rfl, by kernel_rfl, by kernel_rfl, by kernel_rfl, by kernel_rfl⟩
def S4 : lY := ⟨[R [o 3 (iU v0), o 6 (.alloc [nl, nl, nl]), o 7 (m (c 0))], R [r 18 (ls 9 v3), r 19 (m v1), r 20 (m v2), r 21 (gI (fn 125) [t18, t19, t20]), r 17 (m t21), r 22 (ex t17 0), r 23 (ex t17 1), o 8 (m t22), o 9 (m t23)], q (R [r 24 (m v9), o 25 (ne t24 (c 0))]) (iD ad8 (q (R [r 26 (.build [nl, nl, nl] []), r 27 (m v9), n (st 3 v6 t26), o 7 (m t27)]) rt) k), q (R [r 28 (m sF), o 29 (no t28)]) (iD aeb (q (R [r 30 (.build [nl, nl, nl] []), n (st 3 v6 t30), o 7 (m (c 9))]) rt) k), oE [r 32 (di 0 v3), r 33 (ls 5 t32), r 34 (di 8 v3), r 35 (b2 t34), r 36 (m v1), r 37 (kr 4 t35 t36), r 38 (di 3 t37), r 39 (b2 t38), r 40 (gI (fn 126) [t33, t39]), r 31 (m t40), r 41 (ex t31 0), r 42 (ex t31 1), o 10 (m t41), r 11 (m t42)] [0, 1, 0, 4, 0, 28, 60, 124, 255, 511, 1023, 1023, 2047, 8191], R [r 44 (di 0 v3), r 45 (ls 5 t44), r 46 (m v10), r 47 (gI (fn 127) [t45, t46]), r 43 (m t47), r 48 (ex t43 0), r 49 (ex t43 1), o 12 (.alloc [z, ld, z, z, nl]), n (st 5 v12 t48), r 13 (m t49)], R [r 50 (ls 9 v3), r 51 (.mkMap), r 52 (.build [nl, nl, nl, z, ld, z, z, nl, nl, nl, nl, nl, nl, .hU] [(3, 9, t50), (13, 1, t51)]), r 53 (iU t52), o 14 (m t53)], oE [r 54 (m vX), r 55 (di 4 v12), r 56 (b2 t55), r 57 (kr 5 t56 (c 2)), r 58 (ls 5 t57), r 59 (ls 9 v3), r 60 (m v1), r 61 (gI (fn 130) [t59, t60]), r 62 (m v2), r 63 (gI (fn 129) [t61, t62]), r 64 (gI (fn 128) [t54, t58, t63])] [0, 0, 2, 6, 14, 0, 0, 96, 0, 480, 1023], R [r 65 (m vX), r 66 (m vX), r 67 (xX t66), r 68 (di 12 t67), r 69 (b2 t68), r 70 (.lit 1 [nl] 1 [(0, t69)] true), r 71 (gI (fn 131) [t70]), r 72 (xX t65), r 73 (di 0 t72), r 74 (di 0 t73), n (st 1 t74 t71)]], ⟨[r 75 (m vX), r 76 (xX t75), r 77 (di 13 t76), r 78 (b2 t77)], t78, 79, (80, false), [o 81 (ex t80 0)], aef, 1, (82, false), [r 83 (ex t82 1), o 16 (.alloc [z, z, z]), n (st 3 S0 t83)], oE [r 84 (m vX), r 85 (m vX), r 86 (xX t85), r 87 (di 0 t86), r 88 (di 2 t87), r 89 (b2 t88), r 90 (ls 3 S0), r 91 (.lit 3 [z, z, z] 1 [(0, t90)] true), r 92 (ap 3 24 t89 t91), r 93 (xX t84), r 94 (di 0 t93), r 95 (di 2 t94), n (st 1 t95 t92)] [0, 0, 2, 6, 14, 30, 0, 64, 254, 511, 1023, 2047, 4095]⟩, q (R [r 96 (m vX), r 97 (xX t96), r 98 (di 0 t97), r 99 (di 2 t98), r 100 (b2 t99), r 101 (gI (fn 132) [t100, (fn 133)])]) (q (R [r 102 (m vX), r 103 (xX t102), r 104 (di 0 t103), r 105 (ls 3 t104), n (st 3 v6 t105), o 7 (m (c 0))]) rt), [.cell 6 (some 3), .tmp 7]⟩
def rr : Code := Tryz.f58.body.getD .skip
theorem aek (g : Nat -> Option Obj) : Gs (C g) Tryz.f58 S4 := ⟨[fX rr, fX (cJ rr), fX (cJ (cJ rr)), fX (cJ (cJ (cJ rr))), fX (cJ (cJ (cJ (cJ rr)))), fX (cJ (cJ (cJ (cJ (cJ rr))))), fX (cJ (cJ (cJ (cJ (cJ (cJ rr)))))), fX (cJ (cJ (cJ (cJ (cJ (cJ (cJ rr))))))), fX (cJ (cJ (cJ (cJ (cJ (cJ (cJ (cJ rr))))))))], fX (cJ (cJ (cJ (cJ (cJ (cJ (cJ (cJ (cJ rr))))))))), cJ (cJ (cJ (cJ (cJ (cJ (cJ (cJ (cJ (cJ rr))))))))), by kernel_rfl, by kernel_rfl, by kernel_rfl, by kernel_rfl, by kernel_rfl, by kernel_rfl⟩
variable (g : Nat -> Option Obj)
theorem ael : S3.iS (cu (fW g) 60) 60 Tryz.f214.ntmps Qo := ⟨⟨by kernel_rfl, by kernel_rfl, by kernel_rfl⟩, ⟨by kernel_rfl, by kernel_rfl, by kernel_rfl⟩, ⟨by kernel_rfl, by kernel_rfl, by kernel_rfl⟩, ⟨by kernel_rfl, by kernel_rfl, by kernel_rfl⟩, trivial⟩
def ru : Nat -> Option ca := over (fW g) 214 (iR Qo)
end
end Go.Abs.b1
