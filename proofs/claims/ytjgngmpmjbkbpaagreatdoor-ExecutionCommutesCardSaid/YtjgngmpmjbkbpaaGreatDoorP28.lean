/- Texts of this claim, joined and written short by a program. -/
import Derived.Test.YtjgngmpmjbkbpaaGreatDoorP26
import Derived.Test.YtjgngmpmjbkbpaaGreatDoorP00
set_option linter.unusedVariables false
set_option linter.unusedSimpArgs false
set_option linter.unusedSectionVars false
namespace Go.Abs.gB
open Go Go.Abs
inductive aN (ay : Nat -> Type) : Type where
 | int (k : IntKind) (n : Int)
 | cj (b : Bool)
 | bo (i : Nat) (neg : Bool)
 | str (s : bQ)
 | sl (t : Nat) (s : ak (ay t))
 | k (v : V)
 | agg (vs : List (aN ay))
 | ba (vs : List (aN ay))
 | dB (vs : List (aN ay)) (f : Nat)
 | ptr (o off : Nat)
 | row (o : Nat)
 | im (o : Nat) (n : Int) (f : Nat)
 | fn (i : Nat) (caps : List (aN ay))
 | fv (j : Nat)
 | kd
structure hP where
 ay : Nat -> Type
 es : Nat -> Nat
 enc : (t : Nat) -> ay t -> V
 lD : (t : Nat) -> ay t -> Nat -> aN ay
 we : (t : Nat) -> ay t -> List Bool
 iH : (t : Nat) -> aN ay -> List Bool -> Option (ay t)
 a8 : Nat -> Bool
 dq : Nat -> Option Nat
 beq : (t : Nat) -> ay t -> ay t -> Bool
 mp : Nat -> Option (Nat × Nat)
 Vz : ∀ c p, mp c = some p -> ay c = List (ay p.1 × ay p.2)
section
variable (J : hP) (B : List Bool) (ρ : List V) (fs : List V)
mutual
inductive bY : aN J.ay -> V -> Prop
 | int {k : IntKind} {n : Int} : bY (.int k n) (.int k n)
 | cj {b : Bool} : bY (.cj b) (.bool b)
 | bo {i : Nat} {b neg : Bool} (h : B[i]? = some b) : bY (.bo i neg) (.bool (b != neg))
 | str {s : bQ} : bY (.str s) (.str s)
 | sl {t : Nat} {s : ak (J.ay t)} : bY (.sl t s) (bP (J.es t) (J.enc t) s)
 | k {v : V} : bY (.k v) v
 | agg {vs : List (aN J.ay)} {ws : List V} (h : bp vs ws) : bY (.agg vs) (.agg ws)
 | ba {vs : List (aN J.ay)} {ws : List V} (h : bp vs ws) : bY (.ba vs) (.ba ws)
 | dB {vs : List (aN J.ay)} {ws : List V} {f : Nat} (h : bp vs ws) : bY (.dB vs f) (.dB ws f)
 | ptr {o off a : Nat} (h : ρ[o]? = some (.ptr a 0)) : bY (.ptr o off) (.ptr a off)
 | row {o : Nat} {v : V} (h : ρ[o]? = some v) : bY (.row o) v
 | im {o f l es N : Nat} {n : Int} (h : ρ[o]? = some (.cQ l es 0 N N)) : bY (.im o n f) (.gw l es n.toNat f N)
 | fn {i : Nat} {cs : List (aN J.ay)} {ws : List V} (h : bp cs ws) : bY (.fn i cs) (.fn i [] ws)
 | fv {j : Nat} {v : V} (h : fs[j]? = some v) : bY (.fv j) v
 | kd {v : V} : bY .kd v
inductive bp : List (aN J.ay) -> List V -> Prop
 | nil : bp [] []
 | cons {v : aN J.ay} {w : V} {vs : List (aN J.ay)} {ws : List V} (h : bY v w) (r : bp vs ws) : bp (v :: vs) (w :: ws)
end
end
section
variable {J : hP} {B rJ : List Bool} {ρ cS fs : List V}
theorem mw {α : Type} {l fp : List α} (h : l <+: fp) {i : Nat} {a : α} (hi : l[i]? = some a) : fp[i]? = some a := by
 obtain ⟨t, rfl⟩ := h
 rw [hq (fy.1 hi).1]; exact hi
mutual
theorem bY.mono (dC : B <+: rJ) (aM : ρ <+: cS) : ∀ {v : aN J.ay} {w : V}, bY J B ρ fs v w -> bY J rJ cS fs v w
 | _, _, .int => .int
 | _, _, .cj => .cj
 | _, _, .bo h => .bo (mw dC h)
 | _, _, .str => .str
 | _, _, .sl => .sl
 | _, _, .k => .k
 | _, _, .agg h => .agg (bp.mono dC aM h)
 | _, _, .ba h => .ba (bp.mono dC aM h)
 | _, _, .dB h => .dB (bp.mono dC aM h)
 | _, _, .ptr h => .ptr (mw aM h)
 | _, _, .row h => .row (mw aM h)
 | _, _, .im h => .im (mw aM h)
 | _, _, .fn h => .fn (bp.mono dC aM h)
 | _, _, .fv h => .fv h
 | _, _, .kd => .kd
theorem bp.mono (dC : B <+: rJ) (aM : ρ <+: cS) : ∀ {vs : List (aN J.ay)} {ws : List V}, bp J B ρ fs vs ws -> bp J rJ cS fs vs ws
 | _, _, .nil => .nil
 | _, _, .cons h r => .cons (bY.mono dC aM h) (bp.mono dC aM r)
end
mutual
theorem bY.back (dC : B <+: rJ) (aM : ρ <+: cS) : ∀ {v : aN J.ay} {w w' : V}, bY J B ρ fs v w -> bY J rJ cS fs v w' -> bY J B ρ fs v w'
 | _, _, _, .int, .int => .int
 | _, _, _, .cj, .cj => .cj
 | _, _, _, .bo h, .bo h' => by
   have := mw dC h
   rw [h'] at this
   cases this
   exact .bo h
 | _, _, _, .str, .str => .str
 | _, _, _, .sl, .sl => .sl
 | _, _, _, .k, .k => .k
 | _, _, _, .agg h, .agg h' => .agg (bp.back dC aM h h')
 | _, _, _, .ba h, .ba h' => .ba (bp.back dC aM h h')
 | _, _, _, .dB h, .dB h' => .dB (bp.back dC aM h h')
 | _, _, _, .ptr h, .ptr h' => by
   have := mw aM h
   rw [h'] at this
   cases this
   exact .ptr h
 | _, _, _, .row h, .row h' => by
   have := mw aM h
   rw [h'] at this
   cases this
   exact .row h
 | _, _, _, .im h, .im h' => by
   have := mw aM h
   rw [h'] at this
   cases this
   exact .im h
 | _, _, _, .fn h, .fn h' => .fn (bp.back dC aM h h')
 | _, _, _, .fv h, .fv h' => .fv h'
 | _, _, _, .kd, .kd => .kd
theorem bp.back (dC : B <+: rJ) (aM : ρ <+: cS) : ∀ {vs : List (aN J.ay)} {ws fb : List V}, bp J B ρ fs vs ws -> bp J rJ cS fs vs fb -> bp J B ρ fs vs fb
 | _, _, _, .nil, .nil => .nil
 | _, _, _, .cons h r, .cons h' n6 => .cons (bY.back dC aM h h') (bp.back dC aM r n6)
end
theorem bp.length {vs : List (aN J.ay)} {ws : List V} : bp J B ρ fs vs ws -> vs.length = ws.length
 | .nil => rfl
 | .cons _ r => by simp [r.length]
theorem bp.get {vs : List (aN J.ay)} {ws : List V} : bp J B ρ fs vs ws -> ∀ {i : Nat} {v : aN J.ay}, vs[i]? = some v -> ∃ w, ws[i]? = some w /\ bY J B ρ fs v w
 | .nil, _, _, h => by simp at h
 | .cons h r, 0, _, e => by simp at e; subst e; exact ⟨_, rfl, h⟩
 | .cons h r, i + 1, _, e => by
   simp at e
   obtain ⟨w, ah, e2⟩ := r.get e
   exact ⟨w, by simpa using ah, e2⟩
theorem bp.drop {vs : List (aN J.ay)} {ws : List V} : bp J B ρ fs vs ws -> ∀ i, bp J B ρ fs (vs.drop i) (ws.drop i)
 | .nil, i => by cases i <;> exact .nil
 | .cons h r, 0 => .cons h r
 | .cons h r, i + 1 => r.drop i
theorem bp.take {vs : List (aN J.ay)} {ws : List V} : bp J B ρ fs vs ws -> ∀ i, bp J B ρ fs (vs.take i) (ws.take i)
 | .nil, i => by cases i <;> exact .nil
 | .cons h r, 0 => .nil
 | .cons h r, i + 1 => .cons h (r.take i)
theorem bp.set {vs : List (aN J.ay)} {ws : List V} : bp J B ρ fs vs ws -> ∀ (i : Nat) {v : aN J.ay} {w : V}, bY J B ρ fs v w -> bp J B ρ fs (vs.set i v) (ws.set i w)
 | .nil, i, _, _, _ => by cases i <;> exact .nil
 | .cons h r, 0, _, _, h' => .cons h' r
 | .cons h r, i + 1, _, _, h' => .cons h (r.set i h')
theorem bp.app {vs vs' : List (aN J.ay)} {ws fb : List V} : bp J B ρ fs vs ws -> bp J B ρ fs vs' fb -> bp J B ρ fs (vs ++ vs') (ws ++ fb)
 | .nil, h => h
 | .cons h r, h' => .cons h (r.app h')
end
structure gC (J : hP) : Prop where
 lD : ∀ (t : Nat) (x : J.ay t) (B : List Bool) (ρ fs : List V), bY J (B ++ J.we t x) ρ fs (J.lD t x B.length) (J.enc t x)
 iH : ∀ (t : Nat) (v : aN J.ay) (B : List Bool) (ρ fs : List V) (w : V) (x : J.ay t), bY J B ρ fs v w -> J.iH t v B = some x -> w = J.enc t x
 bO : ∀ (t : Nat) (x : J.ay t), bO (J.enc t x) = true
 ok : ∀ (t : Nat) (x : J.ay t), b4 (aG (J.enc t x)) = true
 es : ∀ (t : Nat) (x : J.ay t), (aG (J.enc t x)).length = J.es t
 a8 : ∀ (t : Nat) (x : J.ay t), J.a8 t = true -> flat (J.enc t x) = true
 VA : ∀ (t n : Nat), J.dq t = some n -> ∀ a c : J.ay t, hX n (J.enc t a) (J.enc t c) = some (J.beq t a c)
def bI {α : Type} : List (Nat × α) -> Nat -> Option α
 | [], _ => none
 | (k, a) :: r, t => match Nat.beq k t with
   | true => some a
   | false => bI r t
def nth {α : Type} : List α -> Nat -> Option α
 | [], _ => none
 | a :: _, 0 => some a
 | _ :: r, n + 1 => nth r n
theorem uO {α : Type} : ∀ (l : List α) (n : Nat), nth l n = l[n]?
 | [], _ => by simp [nth]
 | _ :: _, 0 => rfl
 | _ :: r, n + 1 => by simp [nth, uO r n]
theorem gd {α : Type} (k t : Nat) (a : α) (r : List (Nat × α)) : bI ((k, a) :: r) t = if k = t then some a else bI r t := by
 simp only [bI]
 cases hb : Nat.beq k t with
 | true => rw [if_pos (fl hb)]
 | false => rw [if_neg (fun e => by rw [e, zt] at hb; cases hb)]
theorem H7 {α : Type} (l r : List (Nat × α)) (t : Nat) : bI (l ++ r) t = match bI l t with
  | some a => some a
  | none => bI r t := by
 induction l with
 | nil => rfl
 | cons p l ih =>
   obtain ⟨k, a⟩ := p
   rw [oX, gd, gd]
   by_cases e : k = t
   · rw [if_pos e, if_pos e]
   · rw [if_neg e, if_neg e]; exact ih
def mem (t : Nat) : List Nat -> Bool
 | [] => false
 | k :: r => match Nat.beq k t with
   | true => true
   | false => mem t r
theorem mem_iff (t : Nat) : ∀ l : List Nat, mem t l = true ↔ t ∈ l
 | [] => by simp [mem]
 | k :: r => by
   simp only [mem, dS]
   cases hb : Nat.beq k t with
   | true => simp [fl hb]
   | false =>
     have : ¬ t = k := fun e => by rw [e, zt] at hb; cases hb
     simp [this, mem_iff t r]
end Go.Abs.gB
namespace Go.Abs.gB
open Go Go.Abs
inductive cP (J : hP) where
 | cells (w : Bool) (cs : List (aN J.ay))
 | row (t : Nat) (s : ak (J.ay t))
 | mp (k w : Nat) (m : List (J.ay k × J.ay w))
structure bH (J : hP) where
 vs : List (Nat × aN J.ay)
 mem : List (Nat × cP J)
 aF : Nat
 aL : List Bool
 ea : List (Nat × Bool)
 dA : List Nat
 cZ : List (Nat × Nat)
section
variable {J : hP}
class aV (A : Type) where
 bad : A
 br : Nat -> Bool -> A -> A -> A
 db : {α : Type} -> Option α -> (α -> A) -> A
instance {R : Type} : aV (Option R) := ⟨none, fun _ c x y => bif c then x else y, fun o f => o.bind f⟩
inductive nX (A : Type) where
 | leaf (a : A)
 | br (i : Nat) (c : Bool) (t e : nX A)
 | bad
instance {R : Type} : aV (nX R) := ⟨.bad, .br, fun _ _ => .bad⟩
mutual
def D3 : V -> aN J.ay
 | .bool b => .cj b
 | .int k n => .int k n
 | .str s => .str s
 | .agg vs => .agg (AQ vs)
 | v => .k v
def AQ : List V -> List (aN J.ay)
 | [] => []
 | v :: r => D3 v :: AQ r
end
def qD : aN J.ay -> Option (List (aN J.ay))
 | .agg vs => some vs
 | .kd | .fv _ | .ba _ | .row _ | .im .. => none
 | .k v => match v with
   | .agg _ => none
   | v => some [.k v]
 | v => some [v]
def Nl : aN J.ay -> Bool
 | .int .. | .cj _ | .bo .. | .str _ | .sl .. | .ptr .. | .fn .. => true
 | .k v => eP v
 | _ => false
def AR : List (aN J.ay) -> Bool
 | [] => true
 | v :: r => match Nl v with
   | true => AR r
   | false => false
abbrev l5 (J : hP) := List (Nat × aN J.ay)
def ag (az : l5 J) (s : bH J) : aj -> Option (aN J.ay)
 | .tmp t => bI az t
 | .var t => bI s.vs t
 | .const v => some (D3 v)
 | .func i => some (.fn i [])
def yv (az : l5 J) (s : bH J) : List aj -> Option (List (aN J.ay))
 | [] => some []
 | x :: r => match ag az s x with
   | some v => match yv az s r with
     | some l => some (v :: l)
     | none => none
   | none => none
def split {A : Type} [aV A] (s : bH J) (v : aN J.ay) (oI cc : bH J -> A) : A := match v with
 | .cj true => oI s
 | .cj false => cc s
 | .bo i neg => match bI s.ea i with
   | some b => match b, neg with
     | true, false => oI s
     | false, true => oI s
     | _, _ => cc s
   | none => match nth s.aL i with
     | none => aV.bad
     | some c => match neg with
       | false => aV.br i c (oI { s with ea := (i, true) :: s.ea }) (cc { s with ea := (i, false) :: s.ea })
       | true => aV.br i c (cc { s with ea := (i, true) :: s.ea }) (oI { s with ea := (i, false) :: s.ea })
 | _ => aV.bad
def wg (s : bH J) : aN J.ay -> Option Bool
 | .cj b => some b
 | .bo i neg => match nth s.aL i with
   | some c => match neg with
     | false => some c
     | true => some (!c)
   | none => none
 | _ => none
def name {A : Type} [aV A] (s : bH J) (c : Bool) (neg : Bool) (k : aN J.ay -> bH J -> A) : A := k (.bo s.aL.length neg) { s with aL := s.aL ++ [c] }
def elem {A : Type} [aV A] (t : Nat) (x : J.ay t) (s : bH J) (k : aN J.ay -> bH J -> A) : A := k (J.lD t x s.aL.length) { s with aL := s.aL ++ J.we t x }
def cut (cs : List (aN J.ay)) (off : Nat) : Option Nat -> Option (aN J.ay)
 | none => nth cs off
 | some n => match Nat.ble (off + n) cs.length with
   | true => some (.agg ((cs.drop off).take n))
   | false => none
def sQ (cs : List (aN J.ay)) (o : Nat) : List (aN J.ay) -> List (aN J.ay)
 | [] => cs
 | x :: xs => sQ (cs.set o x) (o + 1) xs
def bin {A : Type} [aV A] (s : bH J) (op : BinOp) (k : aN J.ay -> bH J -> A) (x y : aN J.ay) : A := match x, y with
 | .int bL a, .int D4 c => match decide (bL = D4) with
   | false => aV.bad
   | true => match op with
     | .add => k (.int bL (bL.wrap (a + c))) s
     | .sub => k (.int bL (bL.wrap (a - c))) s
     | .mul => k (.int bL (bL.wrap (a * c))) s
     | .eql => name s (a == c) false k
     | .neq => name s (a != c) false k
     | .lss => name s (decide (a < c)) false k
     | .leq => name s (decide (a <= c)) false k
     | .gtr => name s (decide (a > c)) false k
     | .geq => name s (decide (a >= c)) false k
     | .and => k (.int bL (bL.wrap ((BitVec.ofInt bL.bits a &&& BitVec.ofInt bL.bits c).toNat))) s
     | .quo => match bL with
       | .i64 => aV.db (Ak a c) fun q => k (.int .i64 q) s
       | _ => aV.bad
     | .rem => match bL with
       | .i64 => aV.db (Al a c) fun q => k (.int .i64 q) s
       | _ => aV.bad
     | _ => aV.bad
 | .str a, .str c => match op with
   | .add => aV.db (UU a c) fun q => k (.str q) s
   | .eql => name s (a == c) false k
   | .neq => name s (a != c) false k
   | _ => aV.bad
 | _, _ => aV.bad
def Nn {A : Type} [aV A] (s : bH J) (op : BinOp) (k : aN J.ay -> bH J -> A) (x : aN J.ay) (sR : IntKind) (c : Int) : A := match x with
 | .int bL a => match op with
   | .shl => match decide (0 <= c /\ c.toNat <= bL.bits) with
     | true => k (.int bL (bL.wrap (a * 2 ^ c.toNat))) s
     | false => aV.bad
   | .shr => match decide (0 <= c /\ c.toNat <= bL.bits) with
     | true => k (.int bL (a / 2 ^ c.toNat)) s
     | false => aV.bad
   | .quo => match decide (bL = sR /\ 0 < c) with
     | true => k (.int bL (bL.wrap (a.tdiv c))) s
     | false => aV.bad
   | .rem => match decide (bL = sR /\ 0 < c) with
     | true => k (.int bL (a.tmod c)) s
     | false => aV.bad
   | op => bin s op k x (.int sR c)
 | _ => bin s op k x (.int sR c)
def sS (s : bH J) : List Nat -> List (aN J.ay) -> List (aN J.ay) -> Option Bool
 | [], [], [] => some true
 | n :: ks, x :: xs, y :: cN => match sS s ks xs cN with
   | none => none
   | some e => match n, x, y with
     | 0, .int k a, .int bs c => match decide (k = bs) with
       | true => some ((a == c) && e)
       | false => none
     | 1, .str a, .str c => some ((a == c) && e)
     | 2, x, y => match wg s x, wg s y with
       | some a, some c => some ((a == c) && e)
       | _, _ => none
     | _, _, _ => none
 | _, _, _ => none
def H8 (z : List (aN J.ay)) (az : l5 J) (s : bH J) : List (Nat × Nat × aj) -> Option (List (aN J.ay))
 | [] => some z
 | (off, n, x) :: r => match ag az s x with
   | none => none
   | some v => match qD v with
     | none => none
     | some cs => match Nat.beq cs.length n, Nat.ble (off + n) z.length, AR cs with
       | true, true, true => H8 (sQ z off cs) az s r
       | _, _, _ => none
def H9 : Nat -> List (Nat × aj) -> Bool
 | _, [] => true
 | n, p :: r => match Nat.beq p.1 n with
   | true => H9 (n + 1) r
   | false => false
def Ia (t : Nat) (B : List Bool) : List (aN J.ay) -> Option (List (J.ay t))
 | [] => some []
 | v :: r => match J.iH t v B with
   | none => none
   | some x => match Ia t B r with
     | none => none
     | some l => some (x :: l)
def eW {ay : Nat -> Type} (t : Nat) : aN ay -> Option (ak (ay t))
 | .sl e5 s => if h : e5 = t then some (h ▸ s) else none
 | .k .c0 => some .nil
 | .k .emp => some .emp
 | _ => none
def VB (z : List V) : aN J.ay := match z with
 | [v] => D3 v
 | z => .agg (AQ z)
def Ib (k w : Nat) (m : List (J.ay k × J.ay w)) (x : J.ay k) : Option (J.ay w) := @ie _ _ ⟨J.beq k⟩ m x
def ah8 (k w : Nat) (m : List (J.ay k × J.ay w)) (x : J.ay k) (y : J.ay w) : List (J.ay k × J.ay w) := @lC _ _ ⟨J.beq k⟩ m x y
def kindOf (k : Nat) (n : Nat) : Bool := match J.dq k with
 | some m => Nat.beq m n
 | none => false
def Ic {A : Type} [aV A] (az : l5 J) (s : bH J) (ty : Option Nat) (k : aN J.ay -> bH J -> A) : cH -> A
 | .mv x => match ag az s x with
   | some v => k v s
   | none => aV.bad
 | .pick c a b => match ag az s c with
   | some c => split s c (fun s => match ag az s a with | some v => k v s | none => aV.bad) (fun s => match ag az s b with | some v => k v s | none => aV.bad)
   | none => aV.bad
 | .build z parts => match H8 (AQ z) az s parts with
   | some cs => k (.agg cs) s
   | none => aV.bad
 | .lit es z len parts mG => match ty, mG with
   | some t, true => match yv az s (parts.map Prod.snd) with
     | none => aV.bad
     | some vs => match Ia t s.aL vs, H9 0 parts, Nat.beq vs.length len, Nat.beq (J.es t) es with
       | some l, true, true, true => match l with
         | [] => k (.sl t .emp) s
         | l => k (.sl t (.mk l)) s
       | _, _, _, _ => aV.bad
   | _, _ => aV.bad
 | .load sh x => match ag az s x with
   | some (.dB cs f) => match cut cs f sh with
     | some v => k v s
     | none => aV.bad
   | some (.ptr o f) => match bI s.mem o with
     | some (.cells _ cs) => match cut cs f sh with
       | some v => k v s
       | none => aV.bad
     | _ => aV.bad
   | some (.im o n f) => match bI s.mem o with
     | some (.row t a) => aV.db (aR a.l n) fun e => elem t e s fun v s => match qD v with
       | some cs => match cut cs f sh with
         | some v => k v s
         | none => aV.bad
       | none => aV.bad
     | _ => aV.bad
   | _ => aV.bad
 | .nilCheck x => match ag az s x with
   | some (.ptr o f) => k (.ptr o f) s
   | some (.dB cs f) => k (.dB cs f) s
   | some (.fn i cs) => k (.fn i cs) s
   | some (.im o n f) => k (.im o n f) s
   | _ => aV.bad
 | .bin op x (.const (.int sR c)) => match ag az s x with
   | some v => Nn s op k v sR c
   | none => aV.bad
 | .bin op x y => match ag az s x, ag az s y with
   | some v, some w => bin s op k v w
   | _, _ => aV.bad
 | .w2 neg ks x y => match ag az s x, ag az s y with
   | some (.agg a), some (.agg c) => match sS s ks a c with
     | some e => name s e neg k
     | none => aV.bad
   | _, _ => aV.bad
 | .qS kind neg x y => match ag az s x, ag az s y with
   | some v, some w => match kind, v, w with
     | 1, .sl _ a, .k .c0 => name s a.isNil neg k
     | 4, v, w => match wg s v, wg s w with
       | some a, some c => name s (a == c) neg k
       | _, _ => aV.bad
     | _, _, _ => aV.bad
   | _, _ => aV.bad
 | .un op x => match op, ag az s x with
   | .not, some (.cj b) => k (.cj (!b)) s
   | .not, some (.bo i neg) => k (.bo i (!neg)) s
   | .neg, some (.int bL n) => k (.int bL (bL.wrap (0 - n))) s
   | _, _ => aV.bad
 | .conv bL x => match ag az s x with
   | some (.int _ n) => k (.int bL (bL.wrap n)) s
   | _ => aV.bad
 | .tp mx x y => match ag az s x, ag az s y with
   | some (.int bL a), some (.int D4 c) => match decide (bL = D4) with
     | true => match mx with
       | true => k (.int bL (max a c)) s
       | false => k (.int bL (min a c)) s
     | false => aV.bad
   | _, _ => aV.bad
 | .r8 i [] cs => match yv az s cs with
   | some vs => k (.fn i vs) s
   | none => aV.bad
 | .fieldAddr off x => match ag az s x with
   | some (.ptr o f) => k (.ptr o (f + off)) s
   | some (.dB cs f) => k (.dB cs (f + off)) s
   | some (.im o n f) => k (.im o n (f + off)) s
   | _ => aV.bad
 | .field off sh x => match ag az s x with
   | some (.agg cs) => match cut cs off sh with
     | some v => k v s
     | none => aV.bad
   | _ => aV.bad
 | .extract x i => match ag az s x with
   | some (.ba vs) => match nth vs i with
     | some v => k v s
     | none => aV.bad
   | _ => aV.bad
 | .len kind x => match kind, ag az s x with
   | 0, some (.str a) => k (.int .i64 (a.length : Int)) s
   | 1, some (.sl _ a) => k (.int .i64 a.len) s
   | 1, some (.row o) => match bI s.mem o with
     | some (.row _ a) => k (.int .i64 a.len) s
     | _ => aV.bad
   | 2, some (.row o) => match bI s.mem o with
     | some (.mp _ _ m) => k (.int .i64 (m.length : Int)) s
     | _ => aV.bad
   | 1, some (.k .c0) => k (.int .i64 0) s
   | 1, some (.k .emp) => k (.int .i64 0) s
   | _, _ => aV.bad
 | .indexAddr es x i => match ag az s x, ag az s i with
   | some (.sl t a), some (.int _ n) => match Nat.beq (J.es t) es with
     | true => aV.db (aR a.l n) fun e => elem t e s fun v s => match qD v with
       | some cs => k (.dB cs 0) s
       | none => aV.bad
     | false => aV.bad
   | some (.row o), some (.int _ n) => match bI s.mem o with
     | some (.row t a) => match Nat.beq (J.es t) es with
       | true => aV.db (aR a.l n) fun _ => k (.im o n 0) s
       | false => aV.bad
     | _ => aV.bad
   | _, _ => aV.bad
 | .p6 x i => match ag az s x, ag az s i with
   | some (.str a), some (.int _ n) => aV.db (aR a n) fun c => k (.int .u8 (c.toNat : Int)) s
   | _, _ => aV.bad
 | .o1 x lo hi => match ag az s x with
   | some (.str a) => match lo.map (ag az s), hi.map (ag az s) with
     | none, none => aV.db (oH a 0 (a.length : Int)) fun q => k (.str q) s
     | some (some (.int .i64 n)), none => aV.db (oH a n (a.length : Int)) fun q => k (.str q) s
     | none, some (some (.int .i64 m)) => aV.db (oH a 0 m) fun q => k (.str q) s
     | some (some (.int .i64 n)), some (some (.int .i64 m)) => aV.db (oH a n m) fun q => k (.str q) s
     | _, _ => aV.bad
   | _ => aV.bad
 | .lookup kind z x i ok => match ag az s x, ag az s i with
   | some (.row o), some v => match bI s.mem o with
     | some (.mp eh jd m) => match J.iH eh v s.aL, J.iH jd (D3 z) s.aL, kindOf (J := J) eh kind with
       | some x, some z, true => match ok with
         | false => elem jd ((Ib eh jd m x).getD z) s k
         | true => elem jd ((Ib eh jd m x).getD z) s fun v s => name s (Ib eh jd m x).isSome false fun b s => k (.ba [v, b]) s
       | _, _, _ => aV.bad
     | _ => aV.bad
   | _, _ => aV.bad
 | .r9 es x lo hi none => match ag az s x with
   | some (.sl t a) => match Nat.beq (J.es t) es with
     | true => match lo.map (ag az s), hi.map (ag az s) with
       | none, none => aV.db (ry a 0 a.len) fun q => k (.sl t q) s
       | some (some (.int .i64 n)), none => aV.db (ry a n a.len) fun q => k (.sl t q) s
       | none, some (some (.int .i64 m)) => aV.db (ry a 0 m) fun q => k (.sl t q) s
       | some (some (.int .i64 n)), some (some (.int .i64 m)) => aV.db (ry a n m) fun q => k (.sl t q) s
       | _, _ => aV.bad
     | false => aV.bad
   | _ => aV.bad
 | _ => aV.bad
end
end Go.Abs.gB
