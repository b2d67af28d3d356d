/- Texts of this claim, joined and written short by a program. -/
import Derived.Test.YtjgngmpmjbkbpaaGreatDoorP01
import Derived.KernelRfl
import Derived.Lib.Fields
import Derived.Lib.Atoi
import Derived.Lib.Bytealg
import Derived.Lib.Join
import Derived.Laws.World
import Derived.Test.YtjgngmpmjbkbpaaGreatDoorP00
set_option linter.unusedVariables false
set_option linter.unusedSimpArgs false
set_option linter.unusedSectionVars false
namespace Go.Abs.U
open Go Go.Abs
def Fz : List V -> Option V
 | [.str s] => if s.all (fun b => b < 128) && decide (s.length < 4294967281) then some (if (Lib.fields s).isEmpty then .emp else .list 1 ((Lib.fields s).map .str)) else none
 | _ => none
def J9 : List V -> Option V
 | [.str s] => if s.length <= 18 then (Lib.atoi s).map fun n => .ba [.int .i64 n, .iN] else none
 | _ => none
def FA : List V -> Option V
 | [.str s, .int .u8 c] => some (.int .i64 (Lib.indexByte s (UInt8.ofNat c.toNat)))
 | _ => none
def strs : List V -> Option (List (List UInt8))
 | [] => some []
 | .str s :: r => (strs r).map (s :: ·)
 | _ => none
def Ka : List V -> Option V
 | [.c0, .str _] => some (.str [])
 | [.list es ds, .str sep] => match strs ds with
   | some l => if es = 1 /\ l ≠ [] /\ l.length <= 4096 /\ (Lib.join l sep).length <= 1000000 then some (.str (Lib.join l sep)) else none
   | none => none
 | _ => none
def Kb : List V -> Option V
 | [.int .i64 n] => if 0 <= n /\ n < 10 then some (.str [UInt8.ofNat (48 + n.toNat)]) else if -10 < n /\ n < 0 then some (.str [45, UInt8.ofNat (48 + n.natAbs)]) else none
 | _ => none
def Kc : List V -> Option V
 | [.int .u64 n] => if n = 0 then some (.int .i64 0) else if n = 1 then some (.int .i64 1) else if n = 2 then some (.int .i64 2) else none
 | _ => none
def Kd : List V -> Option V
 | [.str s, .str [c]] => if c < 128 then some (.str (s.dropWhile (· == c))) else none
 | _ => none
def Qo : List (List V × V) := [([DH], DH), ([DI], DI), ([Na], Na), ([DJ], DJ), ([Nd], Nd), ([.list 2 [.agg [aq 0, aq (-1)], .agg [aq 1, aq 1]]], .list 2 [.agg [aq 0, aq (-1)], .agg [aq 1, aq 1]])]
def Qp : List (List V × V) := [([wc, aq 0, .list 1 [aq 0]], .ba [.agg [DI, .c0, .c0], aq 0]), ([wc, aq 0, .list 1 [aq 1]], .ba [ago, aq 0]), ([wc, aq 1, .c0], .ba [ag2, aq 0])]
end Go.Abs.U
namespace Go.Abs
open Go
structure Home where
 b : Nat
 tag : Nat
 ff : Nat
 dW : Bool
structure bT where
 β : Nat -> Option Home
 I : Nat -> Prop
def asJ (w : World) (b o : Nat) (vals : List Value) : Prop :=
 ∀ (j : Nat) (x : Value), vals[j]? = some x -> w.cell? ⟨b, o + j, none⟩ = some x
mutual
inductive fE (w : World) (I : Nat -> Prop) : V -> Value -> Prop
 | bool (b : Bool) : fE w I (.bool b) (.bool b)
 | int (k : IntKind) (n : Int) : fE w I (.int k n) (.int k n)
 | str (s : List UInt8) : fE w I (.str s) (.string ⟨⟨s⟩⟩)
 | c0 : fE w I .c0 (.slice none 0 0)
 | emp (a : Addr) : fE w I .emp (.slice (some a) 0 0)
 | tB (es : Nat) (a : Addr) (cap : Nat) : fE w I (.list es []) (.slice (some a) 0 cap)
 | list (es : Nat) (ds : List V) (b o cap : Nat) (vals : List Value) (aZ : I b) (hc : asJ w b o vals) (hu : ∀ d ∈ ds, (aG d).length = es)
  (hr : c6 w I (ds.flatMap aG) vals) (hl : ds.length <= cap) : fE w I (.list es ds) (.slice (some ⟨b, o, none⟩) ds.length cap)
 | iM : fE w I .iM (.pointer none)
 | hU : fE w I .hU (.map none)
 | jB : fE w I .jB .nilFunc
 | iN : fE w I .iN .nilIface
 | agg (vs : List V) (vals : List Value) (hr : c6 w I vs vals) : fE w I (.agg vs) (.agg ⟨vals⟩)
 | ba (vs : List V) (vals : List Value) (hr : c6 w I vs vals) : fE w I (.ba vs) (.tuple ⟨vals⟩)
 | iface (t : Nat) (v : V) (x : Value) (hr : fE w I v x) : fE w I (.iface t v) (.iface t x)
 | fn (i : Nat) (fs cs : List V) (xs cN : List Value) (ae : c6 w I fs xs) (hc : c6 w I cs cN) : fE w I (.fn i fs cs) (.func (.func i) ⟨xs⟩ ⟨cN⟩)
inductive c6 (w : World) (I : Nat -> Prop) : List V -> List Value -> Prop
 | nil : c6 w I [] []
 | cons (v : V) (x : Value) (vs : List V) (xs : List Value) (h : fE w I v x) (hs : c6 w I vs xs) : c6 w I (v :: vs) (x :: xs)
end
section
mutual
inductive bg (fid : Nat -> Nat) (G : bT) (w : World) : V -> Value -> Prop
 | p (v : V) (x : Value) (h : fE w G.I v x) : bg fid G w v x
 | ptr (l o : Nat) (h : Home) (hb : G.β l = some h) (ht : h.tag = 0) : bg fid G w (.ptr l o) (.pointer (some ⟨h.b, o, none⟩))
 | gw (l es i f tag : Nat) (h : Home) (a : Addr) (hb : G.β l = some h) (hle : tag <= h.tag) (ao : h.tag = tag -> a = ⟨h.b, i * es + f, none⟩) :
  bg fid G w (.gw l es i f tag) (.pointer (some a))
 | dB (vs : List V) (f b o : Nat) (vals : List Value) (aZ : G.I b) (hc : asJ w b o vals) (hr : c6 w G.I vs vals) : bg fid G w (.dB vs f) (.pointer (some ⟨b, o + f, none⟩))
 | cQ (l es off len tag : Nat) (h : Home) (a : Addr) (n cap : Nat) (hb : G.β l = some h) (hle : tag <= h.tag)
  (ao : h.tag = tag -> a = ⟨h.b, off * es, none⟩ /\ n = len /\ (off + cap) * es <= h.ff /\ len <= cap) : bg fid G w (.cQ l es off len tag) (.slice (some a) n cap)
 | map (l : Nat) (h : Home) (hb : G.β l = some h) (ht : h.tag = 0) : bg fid G w (.map l) (.map (some h.b))
 | fn (i : Nat) (fs cs : List V) (xs cN : List Value) (ae : a6 fid G w fs xs) (hc : a6 fid G w cs cN) : bg fid G w (.fn i fs cs) (.func (.func i) ⟨xs⟩ ⟨cN⟩)
 | yield (l : Nat) (h : Home) (hb : G.β l = some h) (ht : h.tag = 0) : bg fid G w (.yield l) (.func (.yield h.b) #[] #[])
 | agg (vs : List V) (vals : List Value) (hr : a6 fid G w vs vals) : bg fid G w (.agg vs) (.agg ⟨vals⟩)
 | ba (vs : List V) (vals : List Value) (hr : a6 fid G w vs vals) : bg fid G w (.ba vs) (.tuple ⟨vals⟩)
 | iface (t : Nat) (v : V) (x : Value) (hr : bg fid G w v x) : bg fid G w (.iface t v) (.iface t x)
 | undef (x : Value) : bg fid G w .undef x
inductive a6 (fid : Nat -> Nat) (G : bT) (w : World) : List V -> List Value -> Prop
 | nil : a6 fid G w [] []
 | cons (v : V) (x : Value) (vs : List V) (xs : List Value) (h : bg fid G w v x) (hs : a6 fid G w vs xs) : a6 fid G w (v :: vs) (x :: xs)
end
end
variable {fid : Nat -> Nat} {w w' : World} {G G' : bT} {I qd : Nat -> Prop}
theorem Qq {b : Nat} (h : w'.heap[b]? = w.heap[b]?) (o : Nat) : w'.cell? ⟨b, o, none⟩ = w.cell? ⟨b, o, none⟩ := by
 simp [World.cell?, h]
theorem asJ.ei {b o : Nat} {vals : List Value} (h : asJ w b o vals) (hb : w'.heap[b]? = w.heap[b]?) : asJ w' b o vals :=
 fun j x hx => by rw [Qq hb]; exact h j x hx
mutual
theorem fE.mono (aZ : ∀ b, I b -> qd b /\ w'.heap[b]? = w.heap[b]?) : ∀ {v : V} {x : Value}, fE w I v x -> fE w' qd v x
 | _, _, .bool b => .bool b
 | _, _, .int k n => .int k n
 | _, _, .str s => .str s
 | _, _, .c0 => .c0
 | _, _, .emp a => .emp a
 | _, _, .tB es a cap => .tB es a cap
 | _, _, .list es ds b o cap vals h hc hu hr hl => .list es ds b o cap vals (aZ b h).1 (hc.ei (aZ b h).2) hu (c6.mono aZ hr) hl
 | _, _, .iM => .iM
 | _, _, .hU => .hU
 | _, _, .jB => .jB
 | _, _, .iN => .iN
 | _, _, .agg vs vals hr => .agg vs vals (c6.mono aZ hr)
 | _, _, .ba vs vals hr => .ba vs vals (c6.mono aZ hr)
 | _, _, .iface t v x hr => .iface t v x (fE.mono aZ hr)
 | _, _, .fn i fs cs xs cN ae hc => .fn i fs cs xs cN (c6.mono aZ ae) (c6.mono aZ hc)
theorem c6.mono (aZ : ∀ b, I b -> qd b /\ w'.heap[b]? = w.heap[b]?) : ∀ {vs : List V} {xs : List Value}, c6 w I vs xs -> c6 w' qd vs xs
 | _, _, .nil => .nil
 | _, _, .cons v x vs xs h hs => .cons v x vs xs (fE.mono aZ h) (c6.mono aZ hs)
end
def k9 (β ZO : Nat -> Option Home) : Prop :=
 ∀ l h, β l = some h -> ∃ h', ZO l = some h' /\ h.tag <= h'.tag /\ (h.tag = 0 -> h'.tag = 0) /\ (h'.tag = h.tag -> h'.b = h.b /\ h'.ff = h.ff) /\ (h.dW = true -> h' = h)
theorem k9.refl (β : Nat -> Option Home) : k9 β β := fun _ h hb => ⟨h, hb, aK _, id, fun _ => ⟨rfl, rfl⟩, fun _ => rfl⟩
theorem k9.trans {a b c : Nat -> Option Home} (h : k9 a b) (k : k9 b c) : k9 a c := by
 intro l h₀ hb
 obtain ⟨h₁, ZP, ZQ, ZR, m₁, ZS⟩ := h l h₀ hb
 obtain ⟨h₂, Ke, ZT, ZU, m₂, ZV⟩ := k l h₁ ZP
 refine ⟨h₂, Ke, c4 ZQ ZT, fun z => ZU (ZR z), fun ht => ?_, fun f => ?_⟩
 · have e : h₁.tag = h₀.tag := by omega
   have e' : h₂.tag = h₁.tag := by omega
   exact ⟨(m₂ e').1.trans (m₁ e).1, (m₂ e').2.trans (m₁ e).2⟩
 · have := ZS f; subst this; exact ZV f
mutual
theorem bg.mono (eZ : k9 G.β G'.β) (aZ : ∀ b, G.I b -> G'.I b /\ w'.heap[b]? = w.heap[b]?) : ∀ {v : V} {x : Value}, bg fid G w v x -> bg fid G' w' v x
 | _, _, .p v x h => .p v x (fE.mono aZ h)
 | _, _, .ptr l o h hb ht => by
   obtain ⟨h', e, -, z, m, -⟩ := eZ l h hb
   have := (m ((z ht).trans ht.symm)).1
   rw [<- this]; exact .ptr l o h' e (z ht)
 | _, _, .gw l es i f tag h a hb hle ao => by
   obtain ⟨h', e, t, z, m, -⟩ := eZ l h hb
   refine .gw l es i f tag h' a e (c4 hle t) (fun hx => ?_)
   have ht : h'.tag = h.tag := by omega
   rw [(m ht).1]; exact ao (by omega)
 | _, _, .dB vs f b o vals h hc hr => .dB vs f b o vals (aZ b h).1 (hc.ei (aZ b h).2) (c6.mono aZ hr)
 | _, _, .cQ l es off len tag h a n cap hb hle ao => by
   obtain ⟨h', e, t, z, m, -⟩ := eZ l h hb
   refine .cQ l es off len tag h' a n cap e (c4 hle t) (fun hx => ?_)
   have ht : h'.tag = h.tag := by omega
   rw [(m ht).1, (m ht).2]; exact ao (by omega)
 | _, _, .map l h hb ht => by
   obtain ⟨h', e, -, z, m, -⟩ := eZ l h hb
   have := (m ((z ht).trans ht.symm)).1
   rw [<- this]; exact .map l h' e (z ht)
 | _, _, .fn i fs cs xs cN ae hc => .fn i fs cs xs cN (a6.mono eZ aZ ae) (a6.mono eZ aZ hc)
 | _, _, .yield l h hb ht => by
   obtain ⟨h', e, -, z, m, -⟩ := eZ l h hb
   have := (m ((z ht).trans ht.symm)).1
   rw [<- this]; exact .yield l h' e (z ht)
 | _, _, .agg vs vals hr => .agg vs vals (a6.mono eZ aZ hr)
 | _, _, .ba vs vals hr => .ba vs vals (a6.mono eZ aZ hr)
 | _, _, .iface t v x hr => .iface t v x (bg.mono eZ aZ hr)
 | _, _, .undef x => .undef x
theorem a6.mono (eZ : k9 G.β G'.β) (aZ : ∀ b, G.I b -> G'.I b /\ w'.heap[b]? = w.heap[b]?) : ∀ {vs : List V} {xs : List Value}, a6 fid G w vs xs -> a6 fid G' w' vs xs
 | _, _, .nil => .nil
 | _, _, .cons v x vs xs h hs => .cons v x vs xs (bg.mono eZ aZ h) (a6.mono eZ aZ hs)
end
mutual
theorem bg.restrict {n : Nat} (eZ : ∀ l h, l < n -> G.β l = some h -> ∃ h', G'.β l = some h' /\ h' = h) (aZ : ∀ b, G.I b -> G'.I b /\ w'.heap[b]? = w.heap[b]?) :
  ∀ {v : V} {x : Value}, bg fid G w v x -> old n v = true \/ (bO v = true) -> bg fid G' w' v x
 | _, _, .p v x h, _ => .p v x (fE.mono aZ h)
 | _, _, .ptr l o h hb ht, ho => by
   obtain ⟨h', e, rfl⟩ := eZ l h (by simpa [old, bO] using ho) hb
   exact .ptr l o _ e ht
 | _, _, .gw l es i f tag h a hb hle ao, ho => by
   obtain ⟨h', e, rfl⟩ := eZ l h (by simpa [old, bO] using ho) hb
   exact .gw l es i f tag _ a e hle ao
 | _, _, .dB vs f b o vals h hc hr, _ => .dB vs f b o vals (aZ b h).1 (hc.ei (aZ b h).2) (c6.mono aZ hr)
 | _, _, .cQ l es off len tag h a n cap hb hle ao, ho => by
   obtain ⟨h', e, rfl⟩ := eZ l h (by simpa [old, bO] using ho) hb
   exact .cQ l es off len tag _ a n cap e hle ao
 | _, _, .map l h hb ht, ho => by
   obtain ⟨h', e, rfl⟩ := eZ l h (by simpa [old, bO] using ho) hb
   exact .map l _ e ht
 | _, _, .fn i fs cs xs cN ae hc, ho => by
   simp only [old, bO, cd] at ho
   exact .fn i fs cs xs cN (a6.restrict eZ aZ ae (ho.imp And.left And.left)) (a6.restrict eZ aZ hc (ho.imp And.right And.right))
 | _, _, .yield l h hb ht, ho => by
   obtain ⟨h', e, rfl⟩ := eZ l h (by simpa [old, bO] using ho) hb
   exact .yield l _ e ht
 | _, _, .agg vs vals hr, ho => .agg vs vals (a6.restrict eZ aZ hr (by simpa [old, bO] using ho))
 | _, _, .ba vs vals hr, ho => .ba vs vals (a6.restrict eZ aZ hr (by simpa [old, bO] using ho))
 | _, _, .iface t v x hr, ho => .iface t v x (bg.restrict eZ aZ hr (by simpa [old, bO] using ho))
 | _, _, .undef x, _ => .undef x
theorem a6.restrict {n : Nat} (eZ : ∀ l h, l < n -> G.β l = some h -> ∃ h', G'.β l = some h' /\ h' = h) (aZ : ∀ b, G.I b -> G'.I b /\ w'.heap[b]? = w.heap[b]?) :
  ∀ {vs : List V} {xs : List Value}, a6 fid G w vs xs -> fc n vs = true \/ ct vs = true -> a6 fid G' w' vs xs
 | _, _, .nil, _ => .nil
 | _, _, .cons v x vs xs h hs, ho => by
   have h1 : old n v = true \/ bO v = true := by rcases ho with ho | ho <;> simp_all [fc, ct]
   have h2 : fc n vs = true \/ ct vs = true := by rcases ho with ho | ho <;> simp_all [fc, ct]
   exact .cons v x vs xs (bg.restrict eZ aZ h h1) (a6.restrict eZ aZ hs h2)
end
mutual
theorem bg.o5 : ∀ {v : V} {x : Value}, bg fid G w v x -> bO v = true -> fE w G.I v x
 | _, _, .p v x h, _ => h
 | _, _, .agg vs vals hr, ho => .agg vs vals (a6.o5 hr (by simpa [bO] using ho))
 | _, _, .ba vs vals hr, ho => .ba vs vals (a6.o5 hr (by simpa [bO] using ho))
 | _, _, .iface t v x hr, ho => .iface t v x (bg.o5 hr (by simpa [bO] using ho))
 | _, _, .fn i fs cs xs cN ae hc, ho => by
   simp only [bO, cd] at ho
   exact .fn i fs cs xs cN (a6.o5 ae ho.1) (a6.o5 hc ho.2)
 | _, _, .ptr .., ho | _, _, .gw .., ho | _, _, .dB .., ho | _, _, .cQ .., ho | _, _, .map .., ho | _, _, .yield .., ho | _, _, .undef .., ho => by simp [bO] at ho
theorem a6.o5 : ∀ {vs : List V} {xs : List Value}, a6 fid G w vs xs -> ct vs = true -> c6 w G.I vs xs
 | _, _, .nil, _ => .nil
 | _, _, .cons v x vs xs h hs, ho => by
   simp only [ct, cd] at ho
   exact .cons v x vs xs (bg.o5 h ho.1) (a6.o5 hs ho.2)
end
theorem c6.od : ∀ {vs : List V} {xs : List Value}, c6 w G.I vs xs -> a6 fid G w vs xs
 | _, _, .nil => .nil
 | _, _, .cons v x vs xs h hs => .cons v x vs xs (.p v x h) (c6.od hs)
mutual
theorem fE.flat : ∀ {v : V} {x : Value}, fE w I v x -> Abs.flat v = true -> fE w' qd v x
 | _, _, .bool b, _ => .bool b
 | _, _, .int k n, _ => .int k n
 | _, _, .str s, _ => .str s
 | _, _, .c0, _ => .c0
 | _, _, .emp a, _ => .emp a
 | _, _, .iM, _ => .iM
 | _, _, .hU, _ => .hU
 | _, _, .jB, _ => .jB
 | _, _, .iN, _ => .iN
 | _, _, .agg vs vals hr, h => .agg vs vals (c6.flat hr (by simpa [Abs.flat] using h))
 | _, _, .ba vs vals hr, h => .ba vs vals (c6.flat hr (by simpa [Abs.flat] using h))
 | _, _, .tB .., h | _, _, .list .., h | _, _, .iface .., h | _, _, .fn .., h => by simp [Abs.flat] at h
theorem c6.flat : ∀ {vs : List V} {xs : List Value}, c6 w I vs xs -> tq vs = true -> c6 w' qd vs xs
 | _, _, .nil, _ => .nil
 | _, _, .cons v x vs xs h hs, ho => by
   simp only [tq, cd] at ho
   exact .cons v x vs xs (fE.flat h ho.1) (c6.flat hs ho.2)
end
mutual
theorem Qr : ∀ {v : V}, Abs.flat v = true -> bO v = true
 | .bool _, _ | .int _ _, _ | .str _, _ | .c0, _ | .emp, _ | .iM, _ | .hU, _ | .jB, _ | .iN, _ => rfl
 | .agg vs, h => by simp only [bO]; exact Kf (by simpa [Abs.flat] using h)
 | .ba vs, h => by simp only [bO]; exact Kf (by simpa [Abs.flat] using h)
 | .list .., h | .ptr .., h | .gw .., h | .dB .., h | .cQ .., h | .map .., h | .fn .., h | .yield .., h | .iface .., h | .undef, h => by simp [Abs.flat] at h
theorem Kf : ∀ {vs : List V}, tq vs = true -> ct vs = true
 | [], _ => rfl
 | v :: vs, h => by
   simp only [tq, cd] at h
   simp only [ct, cd]
   exact ⟨Qr h.1, Kf h.2⟩
end
theorem bg.flat {v : V} {x : Value} (h : bg fid G w v x) (ae : Abs.flat v = true) : bg fid G' w' v x := .p _ _ ((h.o5 (Qr ae)).flat ae)
theorem a6.length : ∀ {vs : List V} {xs : List Value}, a6 fid G w vs xs -> xs.length = vs.length
 | _, _, .nil => rfl
 | _, _, .cons _ _ _ _ _ hs => by simp [a6.length hs]
theorem a6.get : ∀ {vs : List V} {xs : List Value}, a6 fid G w vs xs -> ∀ {i : Nat} {v : V}, vs[i]? = some v -> ∃ x, xs[i]? = some x /\ bg fid G w v x
 | _, _, .nil, i, v, h => by simp at h
 | _, _, .cons v x vs xs h hs, 0, u, e => by simp at e; subst e; exact ⟨x, by simp, h⟩
 | _, _, .cons v x vs xs h hs, i + 1, u, e => by simpa using a6.get hs (by simpa using e)
theorem a6.append : ∀ {vs us : List V} {xs cN : List Value}, a6 fid G w vs xs -> a6 fid G w us cN -> a6 fid G w (vs ++ us) (xs ++ cN)
 | _, _, _, _, .nil, k => k
 | _, _, _, _, .cons v x vs xs h hs, k => .cons v x _ _ h (a6.append hs k)
theorem a6.split : ∀ {vs us : List V} {dc : List Value}, a6 fid G w (vs ++ us) dc -> ∃ xs cN, dc = xs ++ cN /\ a6 fid G w vs xs /\ a6 fid G w us cN
 | [], us, dc, h => ⟨[], dc, rfl, .nil, h⟩
 | v :: vs, us, _, .cons _ x _ xs h hs => by
   obtain ⟨aY, aL, rfl, h1, h2⟩ := a6.split (vs := vs) hs
   exact ⟨x :: aY, aL, rfl, .cons v x vs aY h h1, h2⟩
theorem a6.set : ∀ {vs : List V} {xs : List Value}, a6 fid G w vs xs -> ∀ (i : Nat) {v : V} {x : Value}, bg fid G w v x -> a6 fid G w (vs.set i v) (xs.set i x)
 | _, _, .nil, _, _, _, _ => .nil
 | _, _, .cons v x vs xs h hs, 0, u, y, k => .cons u y vs xs k hs
 | _, _, .cons v x vs xs h hs, i + 1, u, y, k => .cons v x _ _ h (a6.set hs i k)
theorem a6.drop : ∀ {vs : List V} {xs : List Value}, a6 fid G w vs xs -> ∀ (n : Nat), a6 fid G w (vs.drop n) (xs.drop n)
 | _, _, h, 0 => by simpa using h
 | _, _, .nil, n + 1 => .nil
 | _, _, .cons v x vs xs h hs, n + 1 => by simpa using a6.drop hs n
theorem a6.take : ∀ {vs : List V} {xs : List Value}, a6 fid G w vs xs -> ∀ (n : Nat), a6 fid G w (vs.take n) (xs.take n)
 | _, _, h, 0 => by simpa using a6.nil
 | _, _, .nil, n + 1 => .nil
 | _, _, .cons v x vs xs h hs, n + 1 => .cons v x _ _ h (a6.take hs n)
theorem a6.ZW {vs : List V} {xs : List Value} (hl : xs.length = vs.length) (h : ∀ (i : Nat) v x, vs[i]? = some v -> xs[i]? = some x -> bg fid G w v x) : a6 fid G w vs xs := by
 induction vs generalizing xs with
 | nil => cases xs with
   | nil => exact .nil
   | cons => simp at hl
 | cons v vs ih => cases xs with
   | nil => simp at hl
   | cons x xs => exact .cons v x vs xs (h 0 v x rfl rfl) (ih (by simpa using hl) (fun i v x a b => h (i + 1) v x (by simpa using a) (by simpa using b)))
theorem c6.drop : ∀ {vs : List V} {xs : List Value}, c6 w I vs xs -> ∀ (n : Nat), c6 w I (vs.drop n) (xs.drop n)
 | _, _, h, 0 => by simpa using h
 | _, _, .nil, n + 1 => .nil
 | _, _, .cons _ _ _ _ _ hs, n + 1 => by simpa using c6.drop hs n
theorem c6.take : ∀ {vs : List V} {xs : List Value}, c6 w I vs xs -> ∀ (n : Nat), c6 w I (vs.take n) (xs.take n)
 | _, _, _, 0 => by simpa using c6.nil
 | _, _, .nil, n + 1 => .nil
 | _, _, .cons v x _ _ h hs, n + 1 => .cons v x _ _ h (c6.take hs n)
theorem c6.length {vs : List V} {xs : List Value} (h : c6 w I vs xs) : xs.length = vs.length := a6.length (fid := id) (G := ⟨fun _ => none, I⟩) (c6.od h)
def Kg : X -> Option Code -> Prop
 | .normal, none => True
 | .exit id, some (.exit sc) => sc = id
 | .ret, some .ret => True
 | _, _ => False
def nx (es : Array MapEntry) (bE : Nat) : Prop := (∀ x ∈ es.toList, x.born < bE) /\ (es.toList.map (·.born)).Nodup
def iT (C : Ctx) (fid : Nat -> Nat) (G : bT) (w : World) (h : Home) : cE -> Prop
 | .cells vs => h.tag = 0 /\ h.dW = false /\ ∃ c e, w.heap[h.b]? = some (.cells c e (0, 0)) /\ a6 fid G w vs c.toList
 | .row es ds dW => h.tag = ds.length /\ 0 < ds.length /\ h.dW = dW /\ 0 < es /\ (∀ d ∈ ds, (aG d).length = es) /\
  ∃ c e vals rest, w.heap[h.b]? = some (.cells c e (0, 0)) /\ h.ff = c.size /\ c.toList = vals ++ rest /\ a6 fid G w (ds.flatMap aG) vals
 | .map bk => h.tag = 0 /\ h.dW = false /\ ∃ es bE, w.heap[h.b]? = some (.map es bE) /\
  a6 fid G w (bk.map (·.1)) (es.toList.map (·.key)) /\ a6 fid G w (bk.map (·.2)) (es.toList.map (·.val)) /\ nx es bE
 | .loop st sa env params assign body => h.tag = 0 /\ h.dW = false /\ ∃ L vars, w.heap[h.b]? = some (.loop L) /\ L.state = st /\ Kg sa L.pending /\
  L.params.toList = params /\ (∀ t ∈ params, t ∈ vars /\ t < L.tmps.size) /\
  C.code vars L.tmps.size L.assign = some assign /\ C.code vars L.tmps.size L.body = some body /\ ∀ t ∈ vars, bg fid G w (bJ env t) (L.tmps.getD t undef)
 | .gone => h.tag = 0 /\ h.dW = false
structure bb (C : Ctx) (fid : Nat -> Nat) (G : bT) (H : Heap) (w : World) : Prop where
 obj : ∀ l h, G.β l = some h -> ∃ o, H[l]? = some o /\ iT C fid G w h o
 inj : ∀ l fp h h', G.β l = some h -> G.β fp = some h' -> h.b = h'.b -> l = fp
 blk : ∀ l h, G.β l = some h -> h.b < w.heap.size
 cX : ∀ b, G.I b -> b < w.heap.size /\ ∀ l h, G.β l = some h -> h.b = b -> h.dW = true
 jY : ∀ l h, G.β l = some h -> h.dW = true -> G.I h.b
 e6 : ∀ b o, C.e6 b = some o -> G.I b /\ w.heap[b]? = some o
structure Ext (G : bT) (w : World) (G' : bT) (w' : World) (m n : Nat) : Prop where
 size : w.heap.size <= w'.heap.size
 os : w'.os = w.os
 output : w'.output = w.output
 ei : ∀ b, b < w.heap.size -> (∀ l h, G.β l = some h -> h.b = b -> h.dW = true \/ l < m) -> w'.heap[b]? = w.heap[b]?
 homes : k9 G.β G'.β
 mI : ∀ l h', G'.β l = some h' -> (∃ h, G.β l = some h /\ (h.b = h'.b \/ w.heap.size <= h'.b)) \/ (n <= l /\ w.heap.size <= h'.b)
 cX : ∀ b, G.I b -> G'.I b
 ny : ∀ b, G'.I b -> G.I b \/ w.heap.size <= b \/ ∃ l h, G.β l = some h /\ h.b = b
theorem Ext.Kh {m n : Nat} (h : Ext G w G' w' m n) (l : Nat) (h' : Home) (e : G'.β l = some h') : (∃ h, G.β l = some h /\ h.b = h'.b) \/ w.heap.size <= h'.b := by
 rcases h.mI l h' e with ⟨h0, ez, q | q⟩ | ⟨_, q⟩
 · exact .inl ⟨h0, ez, q⟩
 · exact .inr q
 · exact .inr q
theorem Ext.refl (G : bT) (w : World) (m n : Nat) : Ext G w G w m n :=
 ⟨aK _, rfl, rfl, fun _ _ _ => rfl, .refl _, fun _ h hb => .inl ⟨h, hb, .inl rfl⟩, fun _ h => h, fun _ h => .inl h⟩
theorem Ext.le {m m' n Qs : Nat} (h : Ext G w G' w' m n) (hm : m' <= m) (hn : Qs <= n) : Ext G w G' w' m' Qs :=
 { h with ei := fun b hb k => h.ei b hb fun l x ah e2 => (k l x ah e2).imp id fun q => pY q hm
          mI := fun l h' e => (h.mI l h' e).imp id fun q => ⟨c4 hn q.1, q.2⟩ }
theorem Ext.trans {Qt : bT} {gY : World} {m n : Nat} (h : Ext G w G' w' m n) (k : Ext G' w' Qt gY m n) : Ext G w Qt gY m n where
 size := c4 h.size k.size
 os := k.os.trans h.os
 output := k.output.trans h.output
 ei b hb ai := by
  rw [k.ei b (pY hb h.size) ?_, h.ei b hb ai]
  intro l h1 ah e2
  rcases h.Kh l h1 ah with ⟨h0, ez, eb⟩ | hn
  · rcases ai l h0 ez (eb.trans e2) with ae | hl
    · obtain ⟨h', e', -, -, -, k7⟩ := h.homes l h0 ez
      rw [ah] at e'; cases e'
      rw [k7 ae]; exact .inl ae
    · exact .inr hl
  · omega
 homes := h.homes.trans k.homes
 mI l h2 e := by
  have hs := h.size
  rcases k.mI l h2 e with ⟨h1, ah, eb⟩ | ⟨hn, hb⟩
  · rcases h.mI l h1 ah with ⟨h0, ez, zB⟩ | ⟨hn, hb⟩
    · refine .inl ⟨h0, ez, ?_⟩
      rcases eb with eb | eb <;> rcases zB with zB | zB
      · exact .inl (zB.trans eb)
      · exact .inr (by omega)
      · exact .inr (by omega)
      · exact .inr (by omega)
    · exact .inr ⟨hn, by rcases eb with eb | eb <;> omega⟩
  · exact .inr ⟨hn, by omega⟩
 cX b hb := k.cX b (h.cX b hb)
 ny b hb := by
  rcases k.ny b hb with h1 | h1 | ⟨l, h1, ah, eb⟩
  · exact h.ny b h1
  · exact .inr (.inl (c4 h.size h1))
  · rcases h.Kh l h1 ah with ⟨h0, ez, zB⟩ | hn
    · exact .inr (.inr ⟨l, h0, ez, zB.trans eb⟩)
    · exact .inr (.inl (by omega))
theorem bb.Qu {C : Ctx} {H : Heap} {m n : Nat} (aa : bb C fid G H w) (h : Ext G w G' w' m n) : ∀ b, G.I b -> G'.I b /\ w'.heap[b]? = w.heap[b]? := fun b hb =>
 ⟨h.cX b hb, h.ei b (aa.cX b hb).1 fun l x ah e2 => .inl ((aa.cX b hb).2 l x ah e2)⟩
theorem bg.ext {C : Ctx} {H : Heap} {m n : Nat} (aa : bb C fid G H w) (h : Ext G w G' w' m n) {v : V} {x : Value} (k : bg fid G w v x) : bg fid G' w' v x :=
 k.mono h.homes (aa.Qu h)
theorem a6.ext {C : Ctx} {H : Heap} {m n : Nat} (aa : bb C fid G H w) (h : Ext G w G' w' m n) {v : List V} {x : List Value} (k : a6 fid G w v x) : a6 fid G' w' v x :=
 k.mono h.homes (aa.Qu h)
theorem iT.mono {C : Ctx} (eZ : k9 G.β G'.β) (aZ : ∀ b, G.I b -> G'.I b /\ w'.heap[b]? = w.heap[b]?) {h : Home} (hb : w'.heap[h.b]? = w.heap[h.b]?) : ∀ {o : cE}, iT C fid G w h o -> iT C fid G' w' h o
 | .cells vs, ⟨a, b, c, e, hc, hr⟩ => ⟨a, b, c, e, by rw [hb]; exact hc, hr.mono eZ aZ⟩
 | .row es ds dW, ⟨a, b, c, d, u, Qv, e, vals, rest, hc, hs, hl, hr⟩ => ⟨a, b, c, d, u, Qv, e, vals, rest, by rw [hb]; exact hc, hs, hl, hr.mono eZ aZ⟩
 | .map bk, ⟨a, b, es, bE, hc, ai, af, hs⟩ => ⟨a, b, es, bE, by rw [hb]; exact hc, ai.mono eZ aZ, af.mono eZ aZ, hs⟩
 | .loop .., ⟨a, b, L, vars, hc, hs, hp, tC, hin, ao, ZX, he⟩ => ⟨a, b, L, vars, by rw [hb]; exact hc, hs, hp, tC, hin, ao, ZX, fun t ht => (he t ht).mono eZ aZ⟩
 | .gone, h => h
end Go.Abs
