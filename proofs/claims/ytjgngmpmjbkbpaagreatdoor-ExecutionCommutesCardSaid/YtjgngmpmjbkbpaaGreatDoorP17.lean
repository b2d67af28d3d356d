/- Texts of this claim, joined and written short by a program. -/
import Derived.Test.YtjgngmpmjbkbpaaGreatDoorP01
import Derived.Test.YtjgngmpmjbkbpaaGreatDoorP16
import Derived.Test.YtjgngmpmjbkbpaaGreatDoorP00
set_option linter.unusedVariables false
set_option linter.unusedSimpArgs false
set_option linter.unusedSectionVars false
namespace Go.Abs
open Go
def xW (es : Nat) : V -> Bool
 | .c0 | .emp => true
 | .list bC _ => bC == es
 | _ => false
def el : V -> List V
 | .list _ ds => ds
 | _ => []
section
variable {call : c3} {ag : aj -> V} {H : Heap} {low : Nat}
theorem qv (x : aj) : b9 call ag H low (.mv x) = some (ag x, H, low) := rfl
theorem oD (c a b : aj) : b9 call ag H low (.pick c a b) = (o3 (ag c)).map fun t => (if t then ag a else ag b, H, low) := rfl
theorem rp (z : List V) : b9 call ag H low (.alloc z) = some (.ptr H.length 0, H ++ [.cells z], low) := rfl
theorem vW (x : aj) : b9 call ag H low (.box x) = if b4 (aG (ag x)) then some (.ptr H.length 0, H ++ [.cells (aG (ag x))], low) else none := rfl
theorem nb (sh : Option Nat) (x : aj) : b9 call ag H low (.load sh x) = (jk H sh (ag x)).map fun v => (v, H, low) := rfl
theorem lB (n : Nat) (a x : aj) : b9 call ag H low (.store n a x) = (iO H n (ag a) (ag x)).map fun (H', l) => (.undef, H', min low l) := rfl
theorem mn (op : BinOp) (x y : aj) : b9 call ag H low (.bin op x y) = (dY op (ag x) (ag y)).map fun v => (v, H, low) := rfl
theorem pt (op : UnOp) (x : aj) : b9 call ag H low (.un op x) = (o4 op (ag x)).map fun v => (v, H, low) := rfl
theorem qw (k : Nat) (neg : Bool) (x y : aj) : b9 call ag H low (.qS k neg x y) = (tt k (ag x) (ag y)).map fun e => (.bool (if neg then !e else e), H, low) := rfl
theorem Md (i : Nat) (a b : List aj) : b9 call ag H low (.r8 i a b) = some (.fn i (a.map ag) (b.map ag), H, low) := rfl
theorem SS : b9 call ag H low .mkMap = some (.map H.length, H ++ [.map []], low) := rfl
theorem rq (x : aj) (i : Nat) : b9 call ag H low (.extract x i) = match ag x with
 | .ba vs => (vs[i]?).map fun v => (v, H, low)
 | _ => none := rfl
theorem ad2 (off : Nat) (sh : Option Nat) (x : aj) : b9 call ag H low (.field off sh x) = match ag x with
 | .agg vs => (hJ vs off sh).map fun v => (v, H, low)
 | _ => none := rfl
theorem nc (off : Nat) (x : aj) : b9 call ag H low (.fieldAddr off x) = match ag x with
 | .ptr l o => some (.ptr l (o + off), H, low)
 | .gw l es i f tag => some (.gw l es i (f + off) tag, H, low)
 | .dB vs f => some (.dB vs (f + off), H, low)
 | _ => none := rfl
theorem qx (f : aj) (args : List aj) : b9 call ag H low (.call false f args) = match fe H low (args.map ag) with
 | some (vs, H', low') => match call (ag f) vs H' with
   | some (v, Fo, l) => if flat v = true /\ H'.length <= l then some (v, H, low) else some (v, Fo, min low' l)
   | none => none
 | none => none := rfl
theorem sE (f : aj) (args : List aj) : b9 call ag H low (.call true f args) = match call (ag f) (args.map ag) H with
 | some (v, H', l) => some (v, H', min low l)
 | none => none := rfl
theorem Gy (es bytes : Nat) (a b : aj) : b9 call ag H low (.append es bytes a b) = step ag H low (.append es bytes a b) := rfl
theorem SU (es : Nat) (z : List V) (n : Nat) (ps : List (Nat × aj)) (mG : Bool) : b9 call ag H low (.lit es z n ps mG) = step ag H low (.lit es z n ps mG) := rfl
theorem Me (es : Nat) (z : List V) (b : Nat) (l c : aj) : b9 call ag H low (.mkSlice es z b l c) = step ag H low (.mkSlice es z b l c) := rfl
theorem SV (es : Nat) (x : aj) (lo hi mx : Option aj) : b9 call ag H low (.r9 es x lo hi mx) = step ag H low (.r9 es x lo hi mx) := rfl
theorem Gz (k : Nat) (z : V) (x i : aj) (ok : Bool) : b9 call ag H low (.lookup k z x i ok) = step ag H low (.lookup k z x i ok) := rfl
theorem SW (k : Nat) (m x v : aj) : b9 call ag H low (.o2 k m x v) = step ag H low (.o2 k m x v) := rfl
theorem SX (m : Bool) (x y : aj) : b9 call ag H low (.tp m x y) = step ag H low (.tp m x y) := rfl
theorem SY {x : aj} (es : Nat) (h : xW es (ag x) = true) : b9 call ag H low (.len 1 x) = some (.int .i64 (el (ag x)).length, H, low) := by
 show step ag H low (.len 1 x) = _
 cases hx : ag x <;> simp_all [xW, step, el]
theorem ad3 {es : Nat} {x i : aj} (h : xW es (ag x) = true) : b9 call ag H low (.indexAddr es x i) = match jW (ag i) with
  | some k => ((el (ag x))[k]?).map fun d => (.dB (aG d) 0, H, low)
  | none => none := by
 show step ag H low (.indexAddr es x i) = _
 cases hx : ag x <;> simp_all [xW, step, el] <;> cases jW (ag i) <;> rfl
end
@[simp] theorem arh (k : IntKind) (n : Nat) : jW (.int k (n : Int)) = some n := by simp [jW]
@[simp] theorem lZ (H : Heap) : fJ H H H.length = false := by simp [fJ]
theorem wrap_small {n : Int} (h1 : -9223372036854775808 <= n) (h2 : n < 9223372036854775808) : IntKind.i64.wrap n = n := by
 have e : (2 ^ IntKind.i64.bits : Int) = 18446744073709551616 := rfl
 have e' : (2 ^ (IntKind.i64.bits - 1) : Int) = 9223372036854775808 := rfl
 have s : IntKind.i64.signed = true := rfl
 simp only [IntKind.wrap, e, e', s, dt, decide_eq_true_eq]
 split <;> omega
theorem fM (e : Env) (t e5 : Nat) (v : V) : bJ (fR e t v) e5 = if e5 = t then v else bJ e e5 := by
 induction e with
 | nil =>
   by_cases h : e5 = t
   · subst h; simp [fR, bJ]
   · simp [fR, bJ, h, ki h]
 | cons p r ih =>
   obtain ⟨k, u⟩ := p
   simp only [fR]
   split
   · rename_i ai
     subst ai
     by_cases h : e5 = k
     · subst h; simp [bJ]
     · simp [bJ, h, ki h]
   · rename_i ai
     simp only [bJ]
     split
     · rename_i h
       rw [if_neg (by omega)]
     · exact ih
def uA (b n i t blk ex : Nat) (body : cm) : cm :=
 .seq (.region [⟨some (b, true), .bin .lss (.var i) (.var n), none⟩] none) (.seq (.cond (.var b) (.skip) (.exit ex)) (.seq (.block blk body)
  (.region [⟨some (t, false), .bin .add (.var i) (.const (.int .i64 1)), none⟩, ⟨some (i, true), .mv (.tmp t), none⟩] none)))
theorem ad4 {ad : Nat -> Option ca} {b n i t blk ex : Nat} {body : cm} {I : Nat -> au -> Prop} {Q : X -> au -> Prop} {N : Nat} (gT : N < 4611686018427387904) (Rz : b ≠ i) (hex : ex ≠ blk)
  (aZ : ∀ k st, I k st -> bJ st.aw i = .int .i64 k /\ bJ st.aw n = .int .i64 N /\ st.low <= st.H.length)
  (round : ∀ k st, k < N -> I k st -> ∃ x gi, dO ad body { st with aE := [], aw := fR st.aw b (.bool true) } = some (x, gi) /\
    if x = .normal \/ x = .exit blk then bJ gi.aw i = .int .i64 k /\ gi.low <= gi.H.length /\ I (k + 1) { gi with aE := [], aw := fR gi.aw i (.int .i64 ((k + 1 : Nat) : Int)) } else Q x gi)
  (done : ∀ st, I N st -> Q (.exit ex) { st with aE := [], aw := fR st.aw b (.bool false) }) :
  ∀ j k st, k + j = N -> I k st -> ∃ x aU, dO ad (.loop (uA b n i t blk ex body)) st = some (x, aU) /\ Q x aU := by
 have aH : ∀ k st, I k st -> dO ad (.region [⟨some (b, true), .bin .lss (.var i) (.var n), none⟩] none) st = some (.normal, { st with aE := [], aw := fR st.aw b (.bool (decide (k < N))) }) := fun k st h => by
  obtain ⟨h1, h2, av⟩ := aZ k st h
  rw [mH]
  simp [c9, gP, mn, aj.ag, h1, h2, dY, au.put, nv av]
 intro j
 induction j with
 | zero =>
   intro k st ai h
   have : k = N := by omega
   subst this
   refine ⟨.exit ex, _, ?_, done st h⟩
   rw [se]
   simp only [uA]
   rw [jD, aH k st h]
   simp only []
   rw [jD, oc]
   simp [aj.ag, fM, qb]
 | succ j ih =>
   intro k st ai h
   obtain ⟨x, gi, h1, h2⟩ := round k st (by omega) h
   have Gv : ∀ r, dO ad (.seq (.block blk body) (.region [⟨some (t, false), .bin .add (.var i) (.const (.int .i64 1)), none⟩, ⟨some (i, true), .mv (.tmp t), none⟩] none)) { st with aE := [], aw := fR st.aw b (.bool true) } = r ->
     dO ad (uA b n i t blk ex body) st = r := fun r hr => by
    simp only [uA]
    rw [jD, aH k st h]
    simp only []
    rw [jD, oc]
    have hd : decide (k < N) = true := by simp; omega
    simp [aj.ag, fM, qa, hd, hr]
   by_cases hx : x = .normal \/ x = .exit blk
   · rw [if_pos hx] at h2
     obtain ⟨h2, bc, av⟩ := h2
     have Mf : dO ad (.block blk body) { st with aE := [], aw := fR st.aw b (.bool true) } = some (.normal, gi) := by
      rw [nw, h1]
      rcases hx with rfl | rfl
      · rfl
      · simp
     have ad5 : dO ad (.region [⟨some (t, false), .bin .add (.var i) (.const (.int .i64 1)), none⟩, ⟨some (i, true), .mv (.tmp t), none⟩] none) gi = some (.normal, { gi with aE := [], aw := fR gi.aw i (.int .i64 ((k + 1 : Nat) : Int)) }) := by
      have hw : IntKind.i64.wrap ((k : Int) + 1) = ((k + 1 : Nat) : Int) := by rw [wrap_small] <;> omega
      rw [mH]
      simp [c9, gP, mn, qv, aj.ag, h2, dY, hw, au.put, bJ, nv bc]
     have oB := Gv _ (by rw [jD, Mf])
     simp only [ad5] at oB
     obtain ⟨x', aU, h5, gu⟩ := ih (k + 1) _ (by omega) av
     exact ⟨x', aU, by rw [se, oB]; exact h5, gu⟩
   · rw [if_neg hx] at h2
     have Mf : dO ad (.block blk body) { st with aE := [], aw := fR st.aw b (.bool true) } = some (x, gi) := by
      rw [nw, h1]
      cases x with
      | normal => exact absurd (.inl rfl) hx
      | exit id =>
        have : id ≠ blk := fun e => hx (.inr (by rw [e]))
        simp [this]
      | ret => rfl
     have oB := Gv (some (x, gi)) (by
      rw [jD, Mf]
      cases x with
      | normal => exact absurd (.inl rfl) hx
      | exit id => rfl
      | ret => rfl)
     refine ⟨x, gi, ?_, h2⟩
     rw [se, oB]
     cases x with
     | normal => exact absurd (.inl rfl) hx
     | exit id => rfl
     | ret => rfl
end Go.Abs
namespace Go.Abs
open Go
end Go.Abs
namespace Go.Abs.S
open Go Go.Abs
abbrev t0 : aj := .tmp 0
abbrev v0 : aj := .var 0
abbrev t1 : aj := .tmp 1
abbrev v1 : aj := .var 1
abbrev t2 : aj := .tmp 2
abbrev v2 : aj := .var 2
abbrev t3 : aj := .tmp 3
abbrev v3 : aj := .var 3
abbrev t4 : aj := .tmp 4
abbrev v4 : aj := .var 4
abbrev t5 : aj := .tmp 5
abbrev v5 : aj := .var 5
abbrev t6 : aj := .tmp 6
abbrev v6 : aj := .var 6
abbrev t7 : aj := .tmp 7
abbrev kp : aj := .var 7
abbrev t8 : aj := .tmp 8
abbrev sF : aj := .var 8
abbrev t9 : aj := .tmp 9
abbrev v9 : aj := .var 9
abbrev t10 : aj := .tmp 10
abbrev v10 : aj := .var 10
abbrev t11 : aj := .tmp 11
abbrev v11 : aj := .var 11
abbrev t12 : aj := .tmp 12
abbrev v12 : aj := .var 12
abbrev t13 : aj := .tmp 13
abbrev SZ : aj := .var 13
abbrev t14 : aj := .tmp 14
abbrev vX : aj := .var 14
abbrev t15 : aj := .tmp 15
abbrev ad6 : aj := .var 15
abbrev t16 : aj := .tmp 16
abbrev S0 : aj := .var 16
abbrev t17 : aj := .tmp 17
abbrev t18 : aj := .tmp 18
abbrev S1 : aj := .var 18
abbrev t19 : aj := .tmp 19
abbrev t20 : aj := .tmp 20
abbrev v20 : aj := .var 20
abbrev t21 : aj := .tmp 21
abbrev t22 : aj := .tmp 22
abbrev t23 : aj := .tmp 23
abbrev ad7 : aj := .var 23
abbrev t24 : aj := .tmp 24
abbrev t25 : aj := .tmp 25
abbrev ad8 : aj := .var 25
abbrev t26 : aj := .tmp 26
abbrev ad9 : aj := .var 26
abbrev t27 : aj := .tmp 27
abbrev aea : aj := .var 27
abbrev t28 : aj := .tmp 28
abbrev t29 : aj := .tmp 29
abbrev aeb : aj := .var 29
abbrev t30 : aj := .tmp 30
abbrev t31 : aj := .tmp 31
abbrev t32 : aj := .tmp 32
abbrev aec : aj := .var 32
abbrev t33 : aj := .tmp 33
abbrev t34 : aj := .tmp 34
abbrev t35 : aj := .tmp 35
abbrev t36 : aj := .tmp 36
abbrev t37 : aj := .tmp 37
abbrev v37 : aj := .var 37
abbrev t38 : aj := .tmp 38
abbrev t39 : aj := .tmp 39
abbrev t40 : aj := .tmp 40
abbrev t41 : aj := .tmp 41
abbrev t42 : aj := .tmp 42
abbrev t43 : aj := .tmp 43
abbrev t44 : aj := .tmp 44
abbrev aed : aj := .var 44
abbrev t45 : aj := .tmp 45
abbrev t46 : aj := .tmp 46
abbrev t47 : aj := .tmp 47
abbrev t48 : aj := .tmp 48
abbrev aee : aj := .var 48
abbrev t49 : aj := .tmp 49
abbrev t50 : aj := .tmp 50
abbrev t51 : aj := .tmp 51
abbrev t52 : aj := .tmp 52
abbrev t53 : aj := .tmp 53
abbrev t54 : aj := .tmp 54
abbrev t55 : aj := .tmp 55
abbrev t56 : aj := .tmp 56
abbrev t57 : aj := .tmp 57
abbrev t58 : aj := .tmp 58
abbrev t59 : aj := .tmp 59
abbrev t60 : aj := .tmp 60
abbrev t61 : aj := .tmp 61
abbrev t62 : aj := .tmp 62
abbrev t63 : aj := .tmp 63
abbrev t64 : aj := .tmp 64
abbrev t65 : aj := .tmp 65
abbrev t66 : aj := .tmp 66
abbrev t67 : aj := .tmp 67
abbrev t68 : aj := .tmp 68
abbrev t69 : aj := .tmp 69
abbrev t70 : aj := .tmp 70
abbrev t71 : aj := .tmp 71
abbrev t72 : aj := .tmp 72
abbrev t73 : aj := .tmp 73
abbrev t74 : aj := .tmp 74
abbrev t75 : aj := .tmp 75
abbrev t76 : aj := .tmp 76
abbrev t77 : aj := .tmp 77
abbrev t78 : aj := .tmp 78
abbrev t79 : aj := .tmp 79
abbrev t80 : aj := .tmp 80
abbrev t81 : aj := .tmp 81
abbrev aef : aj := .var 81
abbrev t82 : aj := .tmp 82
abbrev t83 : aj := .tmp 83
abbrev t84 : aj := .tmp 84
abbrev t85 : aj := .tmp 85
abbrev t86 : aj := .tmp 86
abbrev t87 : aj := .tmp 87
abbrev t88 : aj := .tmp 88
abbrev t89 : aj := .tmp 89
abbrev t90 : aj := .tmp 90
abbrev t91 : aj := .tmp 91
abbrev t92 : aj := .tmp 92
abbrev t93 : aj := .tmp 93
abbrev t94 : aj := .tmp 94
abbrev t95 : aj := .tmp 95
abbrev t96 : aj := .tmp 96
abbrev t97 : aj := .tmp 97
abbrev t98 : aj := .tmp 98
abbrev aeg : aj := .var 98
abbrev t99 : aj := .tmp 99
abbrev t100 : aj := .tmp 100
abbrev t101 : aj := .tmp 101
abbrev t102 : aj := .tmp 102
abbrev t103 : aj := .tmp 103
abbrev S2 : aj := .var 103
abbrev t104 : aj := .tmp 104
abbrev t105 : aj := .tmp 105
abbrev v105 : aj := .var 105
abbrev t107 : aj := .tmp 107
abbrev t108 : aj := .tmp 108
abbrev t109 : aj := .tmp 109
abbrev t110 : aj := .tmp 110
abbrev t111 : aj := .tmp 111
abbrev t113 : aj := .tmp 113
abbrev t114 : aj := .tmp 114
abbrev t115 : aj := .tmp 115
abbrev t121 : aj := .tmp 121
abbrev aeh : aj := .var 122
abbrev t123 : aj := .tmp 123
abbrev t124 : aj := .tmp 124
abbrev t125 : aj := .tmp 125
abbrev t126 : aj := .tmp 126
abbrev t127 : aj := .tmp 127
abbrev t128 : aj := .tmp 128
abbrev t129 : aj := .tmp 129
abbrev v130 : aj := .var 130
abbrev t131 : aj := .tmp 131
abbrev t132 : aj := .tmp 132
abbrev t134 : aj := .tmp 134
abbrev t135 : aj := .tmp 135
abbrev t136 : aj := .tmp 136
abbrev t153 : aj := .tmp 153
abbrev t154 : aj := .tmp 154
abbrev c (n : Int) : aj := .const (.int .i64 n)
abbrev cs (l : List UInt8) : aj := .const (.str l)
abbrev jM : aj := .const (.bool true)
abbrev kq : aj := .const (.bool false)
abbrev sG : aj := .const .c0
abbrev fn (i : Nat) : aj := .func i
def r (n : Nat) (o : cH) : b3 := ⟨some (n, false), o, none⟩
def o (n : Nat) (p : cH) : b3 := ⟨some (n, true), p, none⟩
def n (o : cH) : b3 := ⟨none, o, none⟩
def rg (n : Nat) (x : aj) (w : Bool) (o : cH) : b3 := ⟨some (n, false), o, some (x, w)⟩
def m (x : aj) : cH := .mv x
def b2 (x : aj) : cH := .load none x
def ls (k : Nat) (x : aj) : cH := .load (some k) x
def st (k : Nat) (a x : aj) : cH := .store k a x
def di (k : Nat) (x : aj) : cH := .fieldAddr k x
def kr (k : Nat) (x i : aj) : cH := .indexAddr k x i
def fs (k n : Nat) (x : aj) : cH := .field k (some n) x
def ex (x : aj) (i : Nat) : cH := .extract x i
def ia (k : Nat) (x : aj) : cH := .len k x
def eq (x y : aj) : cH := .bin .eql x y
def ne (x y : aj) : cH := .bin .neq x y
def lt (x y : aj) : cH := .bin .lss x y
def gt (x y : aj) : cH := .bin .gtr x y
def le (x y : aj) : cH := .bin .leq x y
def df (x y : aj) : cH := .bin .add x y
def no (x : aj) : cH := .un .not x
def jr (x y z : aj) : cH := .pick x y z
def gI (f : aj) (l : List aj) : cH := .call false f l
def ap (e b : Nat) (x y : aj) : cH := .append e b x y
def iU (x : aj) : cH := .box x
def xX (x : aj) : cH := .nilCheck x
def q (a b : cm) : cm := .seq a b
def R (l : List b3) : cm := .region l none
def oE (l : List b3) (b : List Nat) : cm := .region l (some b)
def iD (x : aj) (a b : cm) : cm := .cond x a b
def cj (i : Nat) (a : cm) : cm := .block i a
def k : cm := .skip
def e (i : Nat) : cm := .exit i
def rt : cm := .ret
abbrev nl : V := .c0
abbrev z : V := .int .i64 0
abbrev ld : V := .str []
abbrev em : V := .emp
end Go.Abs.S
set_option maxRecDepth 100000
namespace Go.Abs.U
open Go Go.Abs Go.Proofs Go.Abs.S
noncomputable section
def fX : Code -> Code | .seq a _ => a | c => c
def cJ : Code -> Code | .seq _ a => a | c => c
def az3 : cm := q (R [r 14 (kr 2 v10 v12), r 15 (ls 2 t14), o 5 (.alloc [z, z]), n (st 2 v5 t15)]) (R [r 16 (m v3), r 17 (di 0 v5), r 18 (b2 t17), r 19 (.lookup 0 (.int .i64 0) t16 t18 false), r 20 (di 1 v5), r 21 (b2 t20), r 22 (df t19 t21), n (.o2 0 t16 t18 t22)])
def ag7 : lY := ⟨[R [o 2 (m sG)], R [r 9 (.mkMap), o 3 (m t9)], q (R [o 10 (m v0), o 11 (ia 1 v10), o 12 (m (c 0))]) (cj 0 (.loop (uA 13 11 12 23 1 0 az3))), R [o 6 (m sG)]], ⟨[r 24 (m v3)], t24, 25, (26, false), [o 27 (ex t26 0)], aea, 3, (28, false), [r 29 (ex t28 0), r 30 (ex t28 1), o 7 (m t29), o 8 (m t30)], q (R [r 31 (m sF), o 32 (ne t31 (c 0))]) (iD aec (R [r 33 (m v6), r 34 (m kp), r 35 (m sF), r 36 (.build [z, z] [(0, 1, t34), (1, 1, t35)]), r 37 (.lit 2 [z, z] 1 [(0, t36)] true), r 38 (ap 2 16 t33 t37), o 6 (m t38)]) k)⟩, q (R [r 39 (m v6), r 40 (.call true (fn 265) [t39, (fn 266)])]) (q (R [r 41 (m v6), o 2 (m t41)]) rt), [.tmp 2]⟩
def Dv : Code := Tryz.f156.body.getD .skip
theorem az4 (g : Nat -> Option Obj) : Gs (C g) Tryz.f156 ag7 := ⟨[fX Dv, fX (cJ Dv), fX (cJ (cJ Dv)), fX (cJ (cJ (cJ Dv)))], fX (cJ (cJ (cJ (cJ Dv)))), cJ (cJ (cJ (cJ (cJ Dv)))), by kernel_rfl, by kernel_rfl, by kernel_rfl, by kernel_rfl, by kernel_rfl, by kernel_rfl⟩
def ag9 : lY := ⟨[R [o 3 (iU v0), o 6 (.alloc [nl, nl, nl]), o 7 (m (c 0))], R [r 18 (ls 9 v3), r 19 (m v1), r 20 (m v2), r 21 (gI (fn 77) [t18, t19, t20]), r 17 (m t21), r 22 (ex t17 0), r 23 (ex t17 1), o 8 (m t22), o 9 (m t23)], q (R [r 24 (m v9), o 25 (ne t24 (c 0))]) (iD ad8 (q (R [r 26 (.build [nl, nl, nl] []), r 27 (m v9), n (st 3 v6 t26), o 7 (m t27)]) rt) k), q (R [r 28 (m sF), o 29 (no t28)]) (iD aeb (q (R [r 30 (.build [nl, nl, nl] []), n (st 3 v6 t30), o 7 (m (c 9))]) rt) k), oE [r 32 (di 0 v3), r 33 (ls 5 t32), r 34 (di 8 v3), r 35 (b2 t34), r 36 (m v1), r 37 (kr 4 t35 t36), r 38 (di 3 t37), r 39 (b2 t38), r 40 (gI (fn 78) [t33, t39]), r 31 (m t40), r 41 (ex t31 0), r 42 (ex t31 1), o 10 (m t41), r 11 (m t42)] [0, 1, 0, 4, 0, 28, 60, 124, 255, 511, 1023, 1023, 2047, 8191], R [r 44 (di 0 v3), r 45 (ls 5 t44), r 46 (m v10), r 47 (gI (fn 79) [t45, t46]), r 43 (m t47), r 48 (ex t43 0), r 49 (ex t43 1), o 12 (.alloc [z, ld, z, z, nl]), n (st 5 v12 t48), r 13 (m t49)], R [r 50 (ls 9 v3), r 51 (.mkMap), r 52 (.build [nl, nl, nl, z, ld, z, z, nl, nl, nl, nl, nl, nl, .hU] [(3, 9, t50), (13, 1, t51)]), r 53 (iU t52), o 14 (m t53)], oE [r 54 (m vX), r 55 (di 4 v12), r 56 (b2 t55), r 57 (kr 5 t56 (c 2)), r 58 (ls 5 t57), r 59 (ls 9 v3), r 60 (m v1), r 61 (gI (fn 82) [t59, t60]), r 62 (m v2), r 63 (gI (fn 81) [t61, t62]), r 64 (gI (fn 80) [t54, t58, t63])] [0, 0, 2, 6, 14, 0, 0, 96, 0, 480, 1023], R [r 65 (m vX), r 66 (m vX), r 67 (xX t66), r 68 (di 12 t67), r 69 (b2 t68), r 70 (.lit 1 [nl] 1 [(0, t69)] true), r 71 (gI (fn 83) [t70]), r 72 (xX t65), r 73 (di 0 t72), r 74 (di 0 t73), n (st 1 t74 t71)]], ⟨[r 75 (m vX), r 76 (xX t75), r 77 (di 13 t76), r 78 (b2 t77)], t78, 79, (80, false), [o 81 (ex t80 0)], aef, 1, (82, false), [r 83 (ex t82 1), o 16 (.alloc [z, z, z]), n (st 3 S0 t83)], oE [r 84 (m vX), r 85 (m vX), r 86 (xX t85), r 87 (di 0 t86), r 88 (di 2 t87), r 89 (b2 t88), r 90 (ls 3 S0), r 91 (.lit 3 [z, z, z] 1 [(0, t90)] true), r 92 (ap 3 24 t89 t91), r 93 (xX t84), r 94 (di 0 t93), r 95 (di 2 t94), n (st 1 t95 t92)] [0, 0, 2, 6, 14, 30, 0, 64, 254, 511, 1023, 2047, 4095]⟩, q (R [r 96 (m vX), r 97 (xX t96), r 98 (di 0 t97), r 99 (di 2 t98), r 100 (b2 t99), r 101 (gI (fn 84) [t100, (fn 85)])]) (q (R [r 102 (m vX), r 103 (xX t102), r 104 (di 0 t103), r 105 (ls 3 t104), n (st 3 v6 t105), o 7 (m (c 0))]) rt), [.cell 6 (some 3), .tmp 7]⟩
def Om : Code := Tryz.f35.body.getD .skip
theorem az5 (g : Nat -> Option Obj) : Gs (C g) Tryz.f35 ag9 := ⟨[fX Om, fX (cJ Om), fX (cJ (cJ Om)), fX (cJ (cJ (cJ Om))), fX (cJ (cJ (cJ (cJ Om)))), fX (cJ (cJ (cJ (cJ (cJ Om))))), fX (cJ (cJ (cJ (cJ (cJ (cJ Om)))))), fX (cJ (cJ (cJ (cJ (cJ (cJ (cJ Om))))))), fX (cJ (cJ (cJ (cJ (cJ (cJ (cJ (cJ Om))))))))], fX (cJ (cJ (cJ (cJ (cJ (cJ (cJ (cJ (cJ Om))))))))), cJ (cJ (cJ (cJ (cJ (cJ (cJ (cJ (cJ (cJ Om))))))))), by kernel_rfl, by kernel_rfl, by kernel_rfl, by kernel_rfl, by kernel_rfl, by kernel_rfl⟩
variable (g : Nat -> Option Obj)
theorem ael : ag7.iS (cu (fW g) 60) 60 Tryz.f156.ntmps Qo := ⟨⟨by kernel_rfl, by kernel_rfl, by kernel_rfl⟩, ⟨⟨by kernel_rfl, by kernel_rfl, by kernel_rfl⟩, ⟨⟨by kernel_rfl, by kernel_rfl, by kernel_rfl⟩, ⟨⟨by kernel_rfl, by kernel_rfl, by kernel_rfl⟩, ⟨⟨by kernel_rfl, by kernel_rfl, by kernel_rfl⟩, ⟨⟨by kernel_rfl, by kernel_rfl, by kernel_rfl⟩, trivial⟩⟩⟩⟩⟩⟩
def ru : Nat -> Option ca := over (fW g) 156 (iR Qo)
end
end Go.Abs.U
set_option maxRecDepth 100000
namespace Go.Abs.U
open Go Go.Abs Go.Proofs
noncomputable section
variable (g : Nat -> Option Obj)
def b1 (n : Nat) : List UInt8 := (match HM with | .str l => l | _ => []).drop n
def ak9 : List (List V × V) := [([.str (b1 8)], aq 1), ([.str (b1 20)], aq 1), ([.str (b1 22)], aq 1), ([.str (b1 25)], aq 1), ([.str (b1 26)], aq 1), ([.str (b1 39)], aq 1), ([.str (b1 48)], aq 1), ([.str (b1 49)], aq 1), ([.str (b1 51)], aq 2), ([.str (b1 55)], aq 1), ([.str (b1 68)], aq 1), ([.str (b1 70)], aq 1), ([.str (b1 73)], aq 1), ([.str (b1 75)], aq 1), ([.str (b1 85)], aq 1), ([.str (b1 87)], aq 1), ([.str (b1 88)], aq 1), ([.str (b1 90)], aq 1), ([.str (b1 103)], aq 1), ([.str (b1 104)], aq 1), ([.str (b1 106)], aq 1), ([.str (b1 114)], aq 1), ([.str (b1 116)], aq 1), ([.str (b1 118)], aq 2), ([.str (b1 122)], aq 1), ([.str (b1 132)], aq 1), ([.str (b1 134)], aq 1), ([.str (b1 135)], aq 1), ([.str (b1 145)], aq 1), ([.str [41, 59, 32, 125]], aq 1), ([.str [59, 32, 125]], aq 1), ([.str [125]], aq 1)]
theorem aAC : iS (ru g) 200 320 ak9 := by repeat first | exact trivial | refine ⟨⟨by kernel_rfl, by kernel_rfl⟩, ?_⟩
def GA : Nat -> Option ca := over (ru g) 320 (iR ak9)
def ale : List (List V × V) := []
theorem aAD : iS (GA g) 200 322 ale := trivial
def GC : Nat -> Option ca := over (GA g) 322 (iR ale)
def alj : List V := [.str [50]]
def alk : V := aq 3
theorem aAE : cu (GC g) 200 (.fn 208 [] []) alj [] = some (alk, [], 0) := by kernel_rfl
def alm : List V := [.str [49]]
def als : V := aq 3
theorem aAF : cu (GC g) 200 (.fn 208 [] []) alm [] = some (als, [], 0) := by kernel_rfl
def alu : List V := [.str [48]]
def alv : V := aq 3
theorem aAG : cu (GC g) 200 (.fn 208 [] []) alu [] = some (alv, [], 0) := by kernel_rfl
def alz : List V := [.str [115]]
def alA : V := aq 1
theorem aAH : cu (GC g) 200 (.fn 208 [] []) alz [] = some (alA, [], 0) := by kernel_rfl
def alE : List V := [.str [114]]
def alG : V := aq 1
theorem aAI : cu (GC g) 200 (.fn 208 [] []) alE [] = some (alG, [], 0) := by kernel_rfl
def alJ : List V := [.str [97]]
def alK : V := aq 1
theorem aAJ : cu (GC g) 200 (.fn 208 [] []) alJ [] = some (alK, [], 0) := by kernel_rfl
def alL : List V := [.str [105]]
def alM : V := aq 1
theorem aAK : cu (GC g) 200 (.fn 208 [] []) alL [] = some (alM, [], 0) := by kernel_rfl
def alN : List V := [.str [111]]
def alO : V := aq 1
theorem aAL : cu (GC g) 200 (.fn 208 [] []) alN [] = some (alO, [], 0) := by kernel_rfl
def alP : List V := [.str [112]]
def alQ : V := aq 1
theorem aAM : cu (GC g) 200 (.fn 208 [] []) alP [] = some (alQ, [], 0) := by kernel_rfl
def alR : List V := [.str [107]]
def amv : V := aq 1
theorem aAN : cu (GC g) 200 (.fn 208 [] []) alR [] = some (amv, [], 0) := by kernel_rfl
def amw : List (List V × V) := [(alj, alk), (alm, als), (alu, alv), (alz, alA), (alE, alG), (alJ, alK), (alL, alM), (alN, alO), (alP, alQ), (alR, amv)]
theorem aAO : iS (GC g) 200 208 amw := ⟨⟨by kernel_rfl, aAE g⟩, ⟨⟨by kernel_rfl, aAF g⟩, ⟨⟨by kernel_rfl, aAG g⟩, ⟨⟨by kernel_rfl, aAH g⟩, ⟨⟨by kernel_rfl, aAI g⟩, ⟨⟨by kernel_rfl, aAJ g⟩, ⟨⟨by kernel_rfl, aAK g⟩, ⟨⟨by kernel_rfl, aAL g⟩, ⟨⟨by kernel_rfl, aAM g⟩, ⟨⟨by kernel_rfl, aAN g⟩, trivial⟩⟩⟩⟩⟩⟩⟩⟩⟩⟩
def GD : Nat -> Option ca := over (GC g) 208 (iR amw)
def amx : List V := [ZK]
def amy : V := .bool true
theorem aAP : cu (GD g) 200 (.fn 56 [] []) amx [] = some (amy, [], 0) := by kernel_rfl
def amz : List (List V × V) := [(amx, amy)]
theorem aAQ : iS (GD g) 200 56 amz := ⟨⟨by kernel_rfl, aAP g⟩, trivial⟩
def CR : Nat -> Option ca := over (GD g) 56 (iR amz)
end
end Go.Abs.U
set_option maxRecDepth 100000
namespace Go.Abs.U
open Go Go.Abs Go.Proofs
noncomputable section
variable (g : Nat -> Option Obj)
def amA : List V := [ZK]
def amB : V := .ba [.agg [.list 4 [.agg [aq 0, .str [115], aq 1, aq (-1)], .agg [aq 1, .str [114], aq 3, aq (-1)], .agg [aq 4, .str [97], aq 5, aq 3], .agg [aq 2, .str [105], aq 7, aq (-1)], .agg [aq 3, .str [111], aq 12, aq (-1)], .agg [aq 6, .str [112], aq 14, aq 12], .agg [aq 3, .str [107], aq 21, aq (-1)]], .list 1 [aq (-1), aq 0, aq (-1), aq 1, aq (-1), aq 2, aq 0, aq 3, aq 1, aq (-1), aq (-1), aq (-1), aq 4, aq (-1), aq 5, aq 0, aq (-1), aq (-1), aq (-1), aq 1, aq 5, aq 6, aq (-1), aq (-1), aq (-1), aq (-1), aq (-1), aq (-1), aq (-1), aq (-1), aq 1, aq (-1), aq (-1), aq (-1), aq (-1), aq 1, aq (-1), aq (-1), aq 1, aq (-1)]], .c0, aq 0]
theorem aAR : cu (CR g) 200 (.fn 60 [] []) amA [] = some (amB, [], 0) := by kernel_rfl
def amC : List (List V × V) := [(amA, amB)]
theorem aAS : iS (CR g) 200 60 amC := ⟨⟨by kernel_rfl, aAR g⟩, trivial⟩
def GF : Nat -> Option ca := over (CR g) 60 (iR amC)
def anI : List V := [ZK, aq 33]
def anJ : V := .c0
theorem aAT : cu (GF g) 200 (.fn 258 [] []) anI [] = some (anJ, [], 0) := by kernel_rfl
def anK : List (List V × V) := [(anI, anJ)]
theorem aAU : iS (GF g) 200 258 anK := ⟨⟨by kernel_rfl, aAT g⟩, trivial⟩
def jQ : Nat -> Option ca := over (GF g) 258 (iR anK)
def anL : List V := [J8, .c0, ZM]
def anM : V := .ba [.agg [aq 36, .str [49], aq 121, aq 122, .c0, aq 0, aq (-1), aq 1, aq 1], .c0]
theorem aAV : cu (jQ g) 200 (.fn 352 [] []) anL [] = some (anM, [], 0) := by kernel_rfl
def anN : List (List V × V) := [(anL, anM)]
theorem aAW : iS (jQ g) 200 352 anN := ⟨⟨by kernel_rfl, aAV g⟩, trivial⟩
def GG : Nat -> Option ca := over (jQ g) 352 (iR anN)
def anO : List V := [ZK, .c0, ZK]
def anP : V := .ba [ZK, aq 0]
theorem aAX : cu (GG g) 200 (.fn 150 [] []) anO [] = some (anP, [], 0) := by kernel_rfl
def anQ : List (List V × V) := [(anO, anP)]
theorem aAY : iS (GG g) 200 150 anQ := ⟨⟨by kernel_rfl, aAX g⟩, trivial⟩
def GH : Nat -> Option ca := over (GG g) 150 (iR anQ)
def anR : List V := [Zh]
def anS : V := aq 1
theorem aAZ : cu (GH g) 200 (.fn 59 [] []) anR [] = some (anS, [], 0) := by kernel_rfl
def anT : List V := [Zi]
def anU : V := aq 2
theorem aA0 : cu (GH g) 200 (.fn 59 [] []) anT [] = some (anU, [], 0) := by kernel_rfl
def anV : List V := [J5]
def anW : V := aq 1
theorem aA1 : cu (GH g) 200 (.fn 59 [] []) anV [] = some (anW, [], 0) := by kernel_rfl
def anX : List V := [J6]
def ap1 : V := aq 2
theorem aA2 : cu (GH g) 200 (.fn 59 [] []) anX [] = some (ap1, [], 0) := by kernel_rfl
def ap2 : List V := [BM]
def ap3 : V := aq 3
theorem aA3 : cu (GH g) 200 (.fn 59 [] []) ap2 [] = some (ap3, [], 0) := by kernel_rfl
def ap4 : List V := [Zl]
def ap5 : V := aq 4
theorem aA4 : cu (GH g) 200 (.fn 59 [] []) ap4 [] = some (ap5, [], 0) := by kernel_rfl
def ap6 : List V := [P0]
def ap7 : V := aq 1
theorem aA5 : cu (GH g) 200 (.fn 59 [] []) ap6 [] = some (ap7, [], 0) := by kernel_rfl
def ap8 : List V := [P1]
def ap9 : V := aq 1
theorem aA6 : cu (GH g) 200 (.fn 59 [] []) ap8 [] = some (ap9, [], 0) := by kernel_rfl
def aqa : List V := [P2]
def aqb : V := aq 2
theorem aA7 : cu (GH g) 200 (.fn 59 [] []) aqa [] = some (aqb, [], 0) := by kernel_rfl
def aqc : List V := [P3]
def aqd : V := aq 3
theorem aA8 : cu (GH g) 200 (.fn 59 [] []) aqc [] = some (aqd, [], 0) := by kernel_rfl
def aqe : List V := [P4]
def aqf : V := aq 4
theorem aA9 : cu (GH g) 200 (.fn 59 [] []) aqe [] = some (aqf, [], 0) := by kernel_rfl
def aqg : List V := [P5]
def aqh : V := aq 1
theorem aBa : cu (GH g) 200 (.fn 59 [] []) aqg [] = some (aqh, [], 0) := by kernel_rfl
def aqi : List V := [P6]
def aqj : V := aq 2
theorem aBb : cu (GH g) 200 (.fn 59 [] []) aqi [] = some (aqj, [], 0) := by kernel_rfl
def aqk : List V := [P7]
def aql : V := aq 3
theorem aBc : cu (GH g) 200 (.fn 59 [] []) aqk [] = some (aql, [], 0) := by kernel_rfl
def aqm : List V := [P8]
def aqn : V := aq 1
theorem aBd : cu (GH g) 200 (.fn 59 [] []) aqm [] = some (aqn, [], 0) := by kernel_rfl
def aqo : List V := [P9]
def aqp : V := aq 1
theorem aBe : cu (GH g) 200 (.fn 59 [] []) aqo [] = some (aqp, [], 0) := by kernel_rfl
def aqq : List V := [Qb]
def aqr : V := aq 2
theorem aBf : cu (GH g) 200 (.fn 59 [] []) aqq [] = some (aqr, [], 0) := by kernel_rfl
def aqs : List V := [Zr]
def aqt : V := aq 3
theorem aBg : cu (GH g) 200 (.fn 59 [] []) aqs [] = some (aqt, [], 0) := by kernel_rfl
def aqu : List V := [Qd]
def aqv : V := aq 4
theorem aBh : cu (GH g) 200 (.fn 59 [] []) aqu [] = some (aqv, [], 0) := by kernel_rfl
def aqw : List V := [Qe]
def aqx : V := aq 5
theorem aBi : cu (GH g) 200 (.fn 59 [] []) aqw [] = some (aqx, [], 0) := by kernel_rfl
def aqy : List V := [Zt]
def aqz : V := aq 1
theorem aBj : cu (GH g) 200 (.fn 59 [] []) aqy [] = some (aqz, [], 0) := by kernel_rfl
def aqA : List V := [Qf]
def asi : V := aq 1
theorem aBk : cu (GH g) 200 (.fn 59 [] []) aqA [] = some (asi, [], 0) := by kernel_rfl
def asj : List V := [Zu]
def asv : V := aq 1
theorem aBl : cu (GH g) 200 (.fn 59 [] []) asj [] = some (asv, [], 0) := by kernel_rfl
def asA : List V := [Fy]
def asB : V := aq 1
theorem aBm : cu (GH g) 200 (.fn 59 [] []) asA [] = some (asB, [], 0) := by kernel_rfl
def asF : List V := [Qg]
def awh : V := aq 2
theorem aBn : cu (GH g) 200 (.fn 59 [] []) asF [] = some (awh, [], 0) := by kernel_rfl
def awi : List V := [Zw]
def awj : V := aq 3
theorem aBo : cu (GH g) 200 (.fn 59 [] []) awi [] = some (awj, [], 0) := by kernel_rfl
def awk : List V := [Zx]
def awl : V := aq 4
theorem aBp : cu (GH g) 200 (.fn 59 [] []) awk [] = some (awl, [], 0) := by kernel_rfl
def awm : List V := [J8]
def awn : V := aq 1
theorem aBq : cu (GH g) 200 (.fn 59 [] []) awm [] = some (awn, [], 0) := by kernel_rfl
def awo : List V := [Zz]
def awp : V := aq 2
theorem aBr : cu (GH g) 200 (.fn 59 [] []) awo [] = some (awp, [], 0) := by kernel_rfl
def awq : List V := [ZB]
def awr : V := aq 5
theorem aBs : cu (GH g) 200 (.fn 59 [] []) awq [] = some (awr, [], 0) := by kernel_rfl
def aws : List V := [vv]
def awt : V := aq 1
theorem aBt : cu (GH g) 200 (.fn 59 [] []) aws [] = some (awt, [], 0) := by kernel_rfl
def awu : List V := [ZC]
def awv : V := aq 2
theorem aBu : cu (GH g) 200 (.fn 59 [] []) awu [] = some (awv, [], 0) := by kernel_rfl
def aww : List V := [ZD]
def awx : V := aq 3
theorem aBv : cu (GH g) 200 (.fn 59 [] []) aww [] = some (awx, [], 0) := by kernel_rfl
def awy : List V := [Qj]
def awz : V := aq 1
theorem aBw : cu (GH g) 200 (.fn 59 [] []) awy [] = some (awz, [], 0) := by kernel_rfl
def awA : List V := [Qk]
def awB : V := aq 2
theorem aBx : cu (GH g) 200 (.fn 59 [] []) awA [] = some (awB, [], 0) := by kernel_rfl
def awC : List V := [ZF]
def awD : V := aq 3
theorem aBy : cu (GH g) 200 (.fn 59 [] []) awC [] = some (awD, [], 0) := by kernel_rfl
def awE : List V := [ZH]
def awF : V := aq 6
theorem aBz : cu (GH g) 200 (.fn 59 [] []) awE [] = some (awF, [], 0) := by kernel_rfl
def awG : List V := [Qm]
def awH : V := aq 7
theorem aBA : cu (GH g) 200 (.fn 59 [] []) awG [] = some (awH, [], 0) := by kernel_rfl
def awI : List V := [ZK]
def awJ : V := aq 8
theorem aBB : cu (GH g) 200 (.fn 59 [] []) awI [] = some (awJ, [], 0) := by kernel_rfl
def awK : List (List V × V) := [(anR, anS), (anT, anU), (anV, anW), (anX, ap1), (ap2, ap3), (ap4, ap5), (ap6, ap7), (ap8, ap9), (aqa, aqb), (aqc, aqd), (aqe, aqf), (aqg, aqh), (aqi, aqj), (aqk, aql), (aqm, aqn), (aqo, aqp), (aqq, aqr), (aqs, aqt), (aqu, aqv), (aqw, aqx), (aqy, aqz), (aqA, asi), (asj, asv), (asA, asB), (asF, awh), (awi, awj), (awk, awl), (awm, awn), (awo, awp), (awq, awr), (aws, awt), (awu, awv), (aww, awx), (awy, awz), (awA, awB), (awC, awD), (awE, awF), (awG, awH), (awI, awJ)]
theorem aBC : iS (GH g) 200 59 awK := ⟨⟨by kernel_rfl, aAZ g⟩, ⟨⟨by kernel_rfl, aA0 g⟩, ⟨⟨by kernel_rfl, aA1 g⟩, ⟨⟨by kernel_rfl, aA2 g⟩, ⟨⟨by kernel_rfl, aA3 g⟩, ⟨⟨by kernel_rfl, aA4 g⟩, ⟨⟨by kernel_rfl, aA5 g⟩, ⟨⟨by kernel_rfl, aA6 g⟩, ⟨⟨by kernel_rfl, aA7 g⟩, ⟨⟨by kernel_rfl, aA8 g⟩, ⟨⟨by kernel_rfl, aA9 g⟩, ⟨⟨by kernel_rfl, aBa g⟩, ⟨⟨by kernel_rfl, aBb g⟩, ⟨⟨by kernel_rfl, aBc g⟩, ⟨⟨by kernel_rfl, aBd g⟩, ⟨⟨by kernel_rfl, aBe g⟩, ⟨⟨by kernel_rfl, aBf g⟩, ⟨⟨by kernel_rfl, aBg g⟩, ⟨⟨by kernel_rfl, aBh g⟩, ⟨⟨by kernel_rfl, aBi g⟩, ⟨⟨by kernel_rfl, aBj g⟩, ⟨⟨by kernel_rfl, aBk g⟩, ⟨⟨by kernel_rfl, aBl g⟩, ⟨⟨by kernel_rfl, aBm g⟩, ⟨⟨by kernel_rfl, aBn g⟩, ⟨⟨by kernel_rfl, aBo g⟩, ⟨⟨by kernel_rfl, aBp g⟩, ⟨⟨by kernel_rfl, aBq g⟩, ⟨⟨by kernel_rfl, aBr g⟩, ⟨⟨by kernel_rfl, aBs g⟩, ⟨⟨by kernel_rfl, aBt g⟩, ⟨⟨by kernel_rfl, aBu g⟩, ⟨⟨by kernel_rfl, aBv g⟩, ⟨⟨by kernel_rfl, aBw g⟩, ⟨⟨by kernel_rfl, aBx g⟩, ⟨⟨by kernel_rfl, aBy g⟩, ⟨⟨by kernel_rfl, aBz g⟩, ⟨⟨by kernel_rfl, aBA g⟩, ⟨⟨by kernel_rfl, aBB g⟩, trivial⟩⟩⟩⟩⟩⟩⟩⟩⟩⟩⟩⟩⟩⟩⟩⟩⟩⟩⟩⟩⟩⟩⟩⟩⟩⟩⟩⟩⟩⟩⟩⟩⟩⟩⟩⟩⟩⟩⟩
def GI : Nat -> Option ca := over (GH g) 59 (iR awK)
end
end Go.Abs.U
