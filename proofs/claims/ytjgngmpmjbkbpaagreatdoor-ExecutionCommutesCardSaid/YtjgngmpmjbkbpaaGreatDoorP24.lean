/- Texts of this claim, joined and written short by a program. -/
import Derived.Test.YtjgngmpmjbkbpaaGreatDoorP17
import Derived.Test.YtjgngmpmjbkbpaaGreatDoorP15
import Derived.Test.YtjgngmpmjbkbpaaGreatDoorP00
set_option linter.unusedVariables false
set_option linter.unusedSimpArgs false
set_option linter.unusedSectionVars false
namespace Go.Abs
open Go
end Go.Abs
namespace Go.Abs
open Go
variable {C : Ctx} {fid : Nat -> Nat} {w w' : World} {G G' : bT} {H H' : Heap}
theorem Mi {ad : Nat -> Option ca} {i : Nat} {spec : List V -> Option V} (h : ad i = some (.ext spec)) {args : List V} (hp : ct args = true) {v : V} (af : spec args = some v) (H : Heap) : cK ad (.fn i [] []) args H = some (v, H, H.length) := by
 rw [sf, h]
 simp [hp, af]
end Go.Abs
namespace Go.Abs
open Go
variable {C : Ctx} {fid : Nat -> Nat}
end Go.Abs
namespace Go.Abs
open Go
abbrev cb := Nat -> V
def up (σ : cb) (t : Nat) (v : V) : cb := fun k => match Nat.beq k t with
 | true => v
 | false => σ k
def nN : cb := fun _ => .undef
theorem uB (σ : cb) (t : Nat) (v : V) : up σ t v t = v := by simp [up, zt]
theorem iE (σ : cb) {t k : Nat} (v : V) (h : k ≠ t) : up σ t v k = σ k := by
 unfold up
 cases hb : Nat.beq k t with
 | true => exact absurd (fl hb) h
 | false => rfl
theorem afo {σ : cb} {t : Nat} {v : V} (h : σ t = v) : up σ t v = σ := by
 funext k
 by_cases e : k = t
 · subst e; rw [uB, h]
 · rw [iE _ _ e]
def bX (az σ : cb) : aj -> V
 | .tmp t => az t
 | .var t => σ t
 | .const v => v
 | .func i => .fn i [] []
def Fits (e : Env) (σ : cb) : Prop := ∀ t, bJ e t = σ t
theorem sH : Fits [] nN := fun _ => rfl
theorem vY {aE aw : Env} {az σ : cb} (ht : Fits aE az) (hs : Fits aw σ) : aj.ag aE aw = bX az σ := by
 funext x
 cases x with
 | tmp t => exact ht t
 | var t => exact hs t
 | const v => rfl
 | func i => rfl
theorem UN {aw : Env} {σ : cb} (h : Fits aw σ) (t : Nat) (v : V) : Fits (fR aw t v) (up σ t v) := fun k => by
 rw [fM]
 by_cases e : k = t
 · rw [if_pos e, e, uB]
 · rw [if_neg e, iE _ _ e]; exact h k
theorem UO {aE : Env} {az : cb} (h : Fits aE az) (t : Nat) (v : V) : Fits ((t, v) :: aE) (up az t v) := fun k => by
 by_cases e : k = t
 · subst e; simp [bJ, uB]
 · rw [iE _ _ e]; simp [bJ, ki e]; exact h k
section
variable (ad : Nat -> Option ca) (b : Nat)
def ft (c : cm) (σ : cb) (H : Heap) (Q : X -> cb -> Heap -> Prop) : Prop :=
 ∀ aw low, Fits aw σ -> b <= low -> b <= H.length -> ∃ x dI H' low' a7, dO ad c ⟨[], aw, H, low, none⟩ = some (x, ⟨[], dI, H', low', none⟩) /\ Fits dI a7 /\ b <= low' /\ b <= H'.length /\ Q x a7 H'
def Op (ops : List b3) (az σ : cb) (H : Heap) (wr : List Bool) (Q : cb -> Heap -> List Bool -> Prop) : Prop :=
 ∀ aE aw low, Fits aE az -> Fits aw σ -> b <= low -> b <= H.length -> ∃ l0 dI H' low' e1 a7, c9 (cK ad) ops ⟨aE, aw, H, low, none⟩ wr = some (⟨l0, dI, H', low', none⟩, e1) /\ Fits dI a7 /\ b <= low' /\ b <= H'.length /\ Q a7 H' e1
end
section
variable {ad : Nat -> Option ca} {b : Nat} {az σ : cb} {H : Heap} {Q : X -> cb -> Heap -> Prop}
theorem ft.mono {c : cm} {UP : X -> cb -> Heap -> Prop} (h : ft ad b c σ H Q) (k : ∀ x a7 H', Q x a7 H' -> UP x a7 H') : ft ad b c σ H UP := fun aw low h1 h2 av => by
 obtain ⟨x, dI, H', low', a7, ah, e2, b5, cU, ej⟩ := h aw low h1 h2 av
 exact ⟨x, dI, H', low', a7, ah, e2, b5, cU, k _ _ _ ej⟩
theorem xY (h : Q .normal σ H) : ft ad b .skip σ H Q := fun aw low h1 h2 av => ⟨_, _, _, _, σ, qa _, h1, h2, av, h⟩
theorem xZ (h : Q .ret σ H) : ft ad b .ret σ H Q := fun aw low h1 h2 av => ⟨_, _, _, _, σ, qc _, h1, h2, av, h⟩
theorem GP {i : Nat} (h : Q (.exit i) σ H) : ft ad b (.exit i) σ H Q := fun aw low h1 h2 av => ⟨_, _, _, _, σ, qb _ _, h1, h2, av, h⟩
def andThen (ad : Nat -> Option ca) (b : Nat) (c : cm) (Q : X -> cb -> Heap -> Prop) : X -> cb -> Heap -> Prop
 | .normal, σ, H => ft ad b c σ H Q
 | x, σ, H => Q x σ H
theorem oF {a c : cm} (h : ft ad b a σ H (andThen ad b c Q)) : ft ad b (.seq a c) σ H Q := fun aw low h1 h2 av => by
 obtain ⟨x, dI, H', low', a7, ah, e2, b5, cU, ej⟩ := h aw low h1 h2 av
 rw [jD, ah]
 cases x with
 | normal => exact ej dI low' e2 b5 cU
 | exit i => exact ⟨_, _, _, _, a7, rfl, e2, b5, cU, ej⟩
 | ret => exact ⟨_, _, _, _, a7, rfl, e2, b5, cU, ej⟩
theorem x0 {x : aj} {t e : cm} {β : Bool} (hx : bX nN σ x = .bool β) (nO : β = true) (h : ft ad b t σ H Q) : ft ad b (.cond x t e) σ H Q := fun aw low h1 h2 av => by
 obtain ⟨x', dI, H', low', a7, ah, e2⟩ := h aw low h1 h2 av
 refine ⟨x', dI, H', low', a7, ?_, e2⟩
 rw [oc, vY sH h1, hx, nO]
 exact ah
theorem x1 {x : aj} {t e : cm} {β : Bool} (hx : bX nN σ x = .bool β) (nO : β = false) (h : ft ad b e σ H Q) : ft ad b (.cond x t e) σ H Q := fun aw low h1 h2 av => by
 obtain ⟨x', dI, H', low', a7, ah, e2⟩ := h aw low h1 h2 av
 refine ⟨x', dI, H', low', a7, ?_, e2⟩
 rw [oc, vY sH h1, hx, nO]
 exact ah
def Ai (id : Nat) : X -> X
 | .exit j => match Nat.beq j id with
   | true => .normal
   | false => .exit j
 | x => x
theorem CT {id : Nat} {c : cm} (h : ft ad b c σ H (fun x => Q (Ai id x))) : ft ad b (.block id c) σ H Q := fun aw low h1 h2 av => by
 obtain ⟨x, dI, H', low', a7, ah, e2, b5, cU, ej⟩ := h aw low h1 h2 av
 refine ⟨Ai id x, dI, H', low', a7, ?_, e2, b5, cU, ej⟩
 rw [nw, ah]
 cases x with
 | normal => rfl
 | exit j =>
   simp only [Ai]
   cases hb : Nat.beq j id with
   | true => rw [if_pos (fl hb)]
   | false => rw [if_neg (fun e => by rw [e, zt] at hb; cases hb)]
 | ret => rfl
theorem sI {ops : List b3} (h : Op ad b ops nN σ H [] (fun a7 H' _ => Q .normal a7 H')) : ft ad b (.region ops none) σ H Q := fun aw low h1 h2 av => by
 obtain ⟨l0, dI, H', low', e1, a7, ah, e2, b5, cU, ej⟩ := h [] aw low sH h1 h2 av
 exact ⟨.normal, dI, H', low', a7, by rw [mH]; simp only [ah, au.fz], e2, b5, cU, ej⟩
theorem UQ {ops : List b3} {fY : List Nat} (h : Op ad b ops nN σ H [] (fun a7 H' wr => p7 fY ops wr = true /\ Q .normal a7 H')) : ft ad b (.region ops (some fY)) σ H Q := fun aw low h1 h2 av => by
 obtain ⟨l0, dI, H', low', e1, a7, ah, e2, b5, cU, ej, jH⟩ := h [] aw low sH h1 h2 av
 exact ⟨.normal, dI, H', low', a7, by rw [mH]; simp only [ah, ej, Bool.true_or, if_true, au.fz], e2, b5, cU, jH⟩
end
section
variable {ad : Nat -> Option ca} {b : Nat} {az σ : cb} {H : Heap} {wr : List Bool} {Q : cb -> Heap -> List Bool -> Prop} {rest : List b3}
theorem fZ (h : Q σ H wr.reverse) : Op ad b [] az σ H wr Q := fun aE aw low h1 h2 av bc => ⟨_, _, _, _, _, σ, rfl, h2, av, bc, h⟩
def gL (az : cb) : Option (Nat × Bool) -> V -> cb
 | some (t, false), v => up az t v
 | _, _ => az
def gM (σ : cb) : Option (Nat × Bool) -> V -> cb
 | some (t, true), v => up σ t v
 | _, _ => σ
theorem Aj {aE aw : Env} (ht : Fits aE az) (hs : Fits aw σ) (H : Heap) (low : Nat) (d : Option (Nat × Bool)) (v : V) :
  ∃ l0 dI, au.put ⟨aE, aw, H, low, none⟩ d v = ⟨l0, dI, H, low, none⟩ /\ Fits l0 (gL az d v) /\ Fits dI (gM σ d v) := by
 match d with
 | none => exact ⟨_, _, rfl, ht, hs⟩
 | some (t, true) => exact ⟨_, _, rfl, ht, UN hs t v⟩
 | some (t, false) => exact ⟨_, _, rfl, UO ht t v, hs⟩
def hE (az σ : cb) : Option (aj × Bool) -> Option Bool
 | none => some true
 | some (t, w) => match bX az σ t with
   | .bool c => some (c == w)
   | .ba [] => some false
   | _ => none
theorem GQ {aE aw : Env} (ht : Fits aE az) (hs : Fits aw σ) : ∀ g : Option (aj × Bool), gP aE aw g = hE az σ g
 | none => rfl
 | some (t, w) => by unfold gP hE; rw [vY ht hs]; rfl
theorem ib {t : aj} {β w : Bool} (h : bX az σ t = .bool β) (nO : β = w) : hE az σ (some (t, w)) = some true := by
 subst nO; simp [hE, h]
theorem GR {t : aj} {β : Bool} (h : bX az σ t = .bool β) (nO : β = false) : hE az σ (some (t, true)) = some false := by
 subst nO; simp [hE, h]
theorem GS {t : aj} {β : Bool} (h : bX az σ t = .bool β) (nO : β = true) : hE az σ (some (t, false)) = some false := by
 subst nO; simp [hE, h]
theorem UR {t : aj} {w : Bool} (h : bX az σ t = .ba []) : hE az σ (some (t, w)) = some false := by
 simp [hE, h]
theorem asN {o : b3} {v : V} {H1 : Heap} {mv : Bool} (hw : hE az σ o.guard = some true)
  (h : b <= H.length -> b <= H1.length /\ ∃ b0, b <= b0 /\ b9 (cK ad) (bX az σ) H H.length o.op = some (v, H1, b0) /\ fJ H H1 b0 = mv)
  (k : Op ad b rest (gL az o.dst v) (gM σ o.dst v) H1 (mv :: wr) Q) : Op ad b (o :: rest) az σ H wr Q := fun aE aw low h1 h2 av bc => by
 obtain ⟨hb, b0, al, a2, a3⟩ := h bc
 simp only [c9]
 rw [GQ h1 h2, hw, vY h1 h2]
 simp only []
 rw [a2]
 simp only []
 obtain ⟨pw, mo, ah, e2, b5⟩ := Aj h1 h2 H1 (min low b0) o.dst v
 rw [ah, a3]
 exact k pw mo _ e2 b5 (by omega) hb
theorem Mj {o : b3} (hw : hE az σ o.guard = some false) (k : Op ad b rest (gL az o.dst (.ba [])) (gM σ o.dst (.ba [])) H (false :: wr) Q) : Op ad b (o :: rest) az σ H wr Q := fun aE aw low h1 h2 av bc => by
 simp only [c9]
 rw [GQ h1 h2, hw]
 simp only []
 obtain ⟨pw, mo, ah, e2, b5⟩ := Aj h1 h2 H low o.dst (.ba [])
 rw [ah]
 exact k pw mo _ e2 b5 av bc
theorem ic {d : Option (Nat × Bool)} {op : cH} {g : Option (aj × Bool)} {v : V} (hw : hE az σ g = some true) (h : b9 (cK ad) (bX az σ) H H.length op = some (v, H, H.length))
  (k : Op ad b rest (gL az d v) (gM σ d v) H (false :: wr) Q) : Op ad b (⟨d, op, g⟩ :: rest) az σ H wr Q :=
 asN (o := ⟨d, op, g⟩) hw (fun hb => ⟨hb, H.length, hb, h, lZ H⟩) k
abbrev cW := List (List (Nat × cE))
def Own (H : Heap) (ms : cW) : Prop := (∀ m ∈ ms, ∀ p ∈ m, H[p.1]? = some p.2) /\ (ms.map (·.map Prod.fst)).Pairwise (fun x y => ∀ a ∈ x, a ∉ y)
theorem Own.nil (H : Heap) : Own H [] := ⟨by simp, by simp⟩
theorem Own.get {ms : cW} (h : Own H ms) (k : Nat) {a : Nat} {o : cE} (ai : ms[k]? = some [(a, o)]) : H[a]? = some o :=
 h.1 _ (fm ai) (a, o) (by simp)
theorem x2 {H : Heap} {a : Nat} {o : cE} (h : H[a]? = some o) : a < H.length := by
 rcases gg a H.length with q | q
 · exact q
 · rw [mF q] at h; cases h
theorem Own.lt {ms : cW} (h : Own H ms) {m : List (Nat × cE)} (hm : m ∈ ms) {p : Nat × cE} (hp : p ∈ m) : p.1 < H.length := x2 (h.1 m hm p hp)
theorem Own.keys {ms : cW} (h : Own H ms) {x : List Nat} (hx : x ∈ ms.map (·.map Prod.fst)) {a : Nat} (ao : a ∈ x) : a < H.length := by
 obtain ⟨m, hm, rfl⟩ := ey.1 hx
 obtain ⟨p, hp, rfl⟩ := ey.1 ao
 exact h.lt hm hp
theorem Own.grow {ms : cW} (h : Own H ms) (o : cE) : Own (H ++ [o]) ([(H.length, o)] :: ms) := by
 refine ⟨fun m hm p hp => ?_, ?_⟩
 · rcases dS.1 hm with rfl | hm
   · simp at hp; subst hp; simp
   · rw [hq (h.lt hm hp)]; exact h.1 m hm p hp
 · rw [eD, Fc]
   refine ⟨fun y hy a ao afp => ?_, h.2⟩
   have := h.keys hy afp
   simp at ao
   omega
theorem Own.GU {ms : cW} (h : Own H ms) {i j : Nat} {m m' : List (Nat × cE)} (hi : ms[i]? = some m) (hj : ms[j]? = some m') (cT : i ≠ j) {p q : Nat × cE} (hp : p ∈ m) (bD : q ∈ m') : p.1 ≠ q.1 := by
 have key : ∀ {i j : Nat} {m m' : List (Nat × cE)}, ms[i]? = some m -> ms[j]? = some m' -> i < j -> ∀ {p q : Nat × cE}, p ∈ m -> q ∈ m' -> p.1 ≠ q.1 := by
  intro i j m m' hi hj cT p q hp bD e
  obtain ⟨sq, hi⟩ := fy.1 hi
  obtain ⟨afq, hj⟩ := fy.1 hj
  have := Py.1 h.2 i j (by simpa using sq) (by simpa using afq) cT
  simp only [Fh] at this
  refine this p.1 (by rw [hi]; exact r2 hp) ?_
  rw [hj, e]; exact r2 bD
 rcases Nat.lt_or_gt_of_ne cT with q1 | q1
 · exact key hi hj q1 hp bD
 · exact fun e => key hj hi q1 bD hp e.symm
theorem afr {ms : cW} {k : Nat} {m m' : List (Nat × cE)} (ai : ms[k]? = some m) (hm : m'.map Prod.fst = m.map Prod.fst) : (ms.set k m').map (·.map Prod.fst) = ms.map (·.map Prod.fst) := by
 rw [List.map_set, hm]
 apply zn
 intro i
 by_cases e : k = i
 · subst e
   have := (fy.1 ai).1
   rw [tc (by simpa using this), kh, ai]; rfl
 · rw [k4 e]
theorem Own.put {ms : cW} (h : Own H ms) (k : Nat) {a : Nat} {o o' : cE} (ai : ms[k]? = some [(a, o)]) : Own (H.set a o') (ms.set k [(a, o')]) := by
 refine ⟨fun m hm p hp => ?_, by rw [afr (m' := [(a, o')]) ai rfl]; exact h.2⟩
 obtain ⟨i, hi⟩ := nu.1 hm
 by_cases e : k = i
 · subst e
   rw [tc (fy.1 ai).1] at hi
   cases hi
   simp at hp; subst hp
   rw [tc (x2 (h.get k ai))]
 · rw [k4 e] at hi
   have := h.GU ai hi e (p := (a, o)) (by simp) hp
   rw [k4 this]
   exact h.1 m (fm hi) p hp
theorem Own.fill {ms : cW} (h : Own H ms) (k : Nat) {o : cE} (ai : ms[k]? = some []) : Own (H ++ [o]) (ms.set k [(H.length, o)]) := by
 refine ⟨fun m hm p hp => ?_, ?_⟩
 · obtain ⟨i, hi⟩ := nu.1 hm
   by_cases e : k = i
   · subst e
     rw [tc (fy.1 ai).1] at hi
     cases hi
     simp at hp; subst hp; simp
   · rw [k4 e] at hi
     have mg := fm hi
     rw [hq (h.lt mg hp)]; exact h.1 m mg p hp
 · have := h.2
   rw [Py] at this ⊢
   intro i j hi hj cT a ao gF
   simp only [n4, zo] at hi hj
   simp only [Fh, List.getElem_set] at ao gF
   have hb : ∀ {i : Nat} (hi : i < ms.length) {a : Nat}, a ∈ (ms[i]).map Prod.fst -> a < H.length := fun hi a ao => h.keys (r2 (JQ hi)) ao
   by_cases ah : k = i
   · have e2 : k ≠ j := by omega
     rw [if_pos ah] at ao; rw [if_neg e2] at gF
     have := hb hj gF
     simp at ao; omega
   · by_cases e2 : k = j
     · rw [if_neg ah] at ao; rw [if_pos e2] at gF
       have := hb hi ao
       simp at gF; omega
     · rw [if_neg ah] at ao; rw [if_neg e2] at gF
       exact this i j (by simpa using hi) (by simpa using hj) cT a (by simpa using ao) (by simpa using gF)
theorem Own.drop {ms : cW} (h : Own H ms) (k : Nat) : Own H (ms.eraseIdx k) := by
 have hs := List.eraseIdx_sublist ms k
 exact ⟨fun m hm => h.1 m (hs.subset hm), h.2.sublist (hs.map _)⟩
theorem Mk {α : Type} {x a : α} : ∀ {l : List α} {k : Nat}, x ∈ l.insertIdx k a -> x = a \/ x ∈ l
 | l, 0, h => by simpa using h
 | [], k + 1, h => by simp at h
 | b :: l, k + 1, h => by
   rw [List.insertIdx_succ_cons] at h
   rcases dS.1 h with rfl | h
   · exact .inr (by simp)
   · rcases Mk h with rfl | h
     · exact .inl rfl
     · exact .inr (k5 _ h)
theorem Own.ins {ms : cW} (h : Own H ms) (k : Nat) : Own H (ms.insertIdx k []) := by
 refine ⟨fun m hm p hp => ?_, ?_⟩
 · rcases Mk hm with rfl | hm
   · cases hp
   · exact h.1 m hm p hp
 · have : ∀ (ms : List (List Nat)) (k : Nat), ms.Pairwise (fun x y => ∀ a ∈ x, a ∉ y) -> (ms.insertIdx k []).Pairwise (fun x y => ∀ a ∈ x, a ∉ y) := by
    intro ms
    induction ms with
    | nil => intro k _; cases k <;> simp
    | cons m ms ih =>
      intro k hp
      cases k with
      | zero => simp only [List.insertIdx_zero, Fc]; exact ⟨by simp, Fc.1 hp⟩
      | succ k =>
        rw [List.insertIdx_succ_cons, Fc]
        obtain ⟨h1, h2⟩ := Fc.1 hp
        refine ⟨fun y hy => ?_, ih k h2⟩
        rcases Mk hy with rfl | hy
        · simp
        · exact h1 y hy
   have h2 := this _ k h.2
   have e : (ms.insertIdx k []).map (·.map Prod.fst) = (ms.map (·.map Prod.fst)).insertIdx k [] := by
    clear h2 this h
    induction ms generalizing k with
    | nil => cases k <;> simp
    | cons m ms ih => cases k <;> simp [*]
   rw [e]; exact h2
theorem Own.US {ms : cW} (h : Own H ms) (ks : List Nat) (ai : ks.Nodup) : Own H (ks.map fun k => ms.getD k []) := by
 refine ⟨fun m hm p hp => ?_, ?_⟩
 · obtain ⟨k, -, rfl⟩ := ey.1 hm
   simp only [Bu] at hp
   cases hx : ms[k]? with
   | none => rw [hx] at hp; cases hp
   | some m => rw [hx] at hp; exact h.1 m (fm hx) p hp
 · rw [qR, List.pairwise_map]
   refine List.Pairwise.imp ?_ ai
   intro i j cT a ao gF
   simp only [Function.comp, Bu] at ao gF
   cases hi : ms[i]? with
   | none => rw [hi] at ao; cases ao
   | some m => cases hj : ms[j]? with
     | none => rw [hj] at gF; cases gF
     | some m' =>
       rw [hi] at ao; rw [hj] at gF
       obtain ⟨p, hp, rfl⟩ := ey.1 ao
       obtain ⟨q, bD, e⟩ := ey.1 gF
       exact h.GU hi hj cT hp bD e.symm
end
end Go.Abs
namespace Go.Abs
open Go
inductive ak (α : Type) where
 | nil
 | emp
 | mk (l : List α)
 deriving Inhabited
def ak.l {α : Type} : ak α -> List α
 | .mk l => l
 | _ => []
def ak.len {α : Type} (x : ak α) : Int := (x.l.length : Int)
def bP {α : Type} (es : Nat) (f : α -> V) : ak α -> V
 | .nil => .c0
 | .emp => .emp
 | .mk l => .list es (l.map f)
abbrev aQ (n : Int) : Int := IntKind.i64.wrap n
abbrev aI (n : Int) : V := .int .i64 n
def aR {α : Type} (l : List α) (i : Int) : Option α := if 0 <= i then l[i.toNat]? else none
inductive cM (S O : Type) where
 | next (s : S)
 | out (o : O)
inductive bK (S R : Type) where
 | go (s : S)
 | ret (r : R)
def nP {S O : Type} (f : S -> Option (cM S O)) : Nat -> S -> Option O
 | 0, _ => none
 | n + 1, s => match f s with
   | some (.next ar) => nP f n ar
   | some (.out o) => some o
   | none => none
theorem Ml {S O : Type} {f : S -> Option (cM S O)} : ∀ {n m : Nat} {s : S} {o : O}, n <= m -> nP f n s = some o -> nP f m s = some o
 | 0, _, _, _, _, h => by cases h
 | n + 1, 0, _, _, hm, h => by omega
 | n + 1, m + 1, s, o, hm, h => by
   simp only [nP] at h ⊢
   split at h
   · exact Ml (by omega) h
   · exact h
   · cases h
open Classical in
noncomputable def bU {S O : Type} (f : S -> Option (cM S O)) (s : S) : Option O :=
 if h : ∃ n o, nP f n s = some o then some h.choose_spec.choose else none
theorem uC {S O : Type} {f : S -> Option (cM S O)} {s : S} {o : O} : bU f s = some o ↔ ∃ n, nP f n s = some o := by
 unfold bU
 constructor
 · intro h
   split at h
   · rename_i hx
     cases h
     exact ⟨_, hx.choose_spec.choose_spec⟩
   · cases h
 · rintro ⟨n, hn⟩
   have hx : ∃ n o, nP f n s = some o := ⟨n, o, hn⟩
   rw [dif_pos hx]
   have h1 := Ml (r4 n hx.choose) hn
   have h2 := Ml (qO n hx.choose) hx.choose_spec.choose_spec
   rw [h1] at h2
   exact h2.symm
theorem kt {S O : Type} (f : S -> Option (cM S O)) (s : S) : bU f s = match f s with
  | some (.next ar) => bU f ar
  | some (.out o) => some o
  | none => none := by
 cases ae : f s with
 | none =>
   simp only []
   cases h : bU f s with
   | none => rfl
   | some o =>
     obtain ⟨n, hn⟩ := uC.1 h
     cases n with
     | zero => cases hn
     | succ n => simp [nP, ae] at hn
 | some r => cases r with
   | out o => exact uC.2 ⟨1, by simp [nP, ae]⟩
   | next ar =>
     simp only []
     cases h : bU f ar with
     | some o =>
       obtain ⟨n, hn⟩ := uC.1 h
       exact uC.2 ⟨n + 1, by simp [nP, ae, hn]⟩
     | none =>
       cases h' : bU f s with
       | none => rfl
       | some o =>
         obtain ⟨n, hn⟩ := uC.1 h'
         cases n with
         | zero => cases hn
         | succ n =>
           simp only [nP, ae] at hn
           rw [uC.2 ⟨n, hn⟩] at h
           cases h
section
variable {ad : Nat -> Option ca} {b : Nat} {az σ : cb} {H : Heap}
theorem afs {S O : Type} {c : cm} (f : S -> Option (cM S O)) (I : S -> cb -> Heap -> Prop) (P : O -> X -> cb -> Heap -> Prop)
  (round : ∀ s σ H r, I s σ H -> f s = some r -> ft ad b c σ H fun x a7 H' => match r with
    | .next ar => x = .normal /\ I ar a7 H'
    | .out o => x ≠ .normal /\ P o x a7 H') {s : S} {o : O} (h : bU f s = some o) (aZ : I s σ H) : ft ad b (.loop c) σ H (P o) := by
 obtain ⟨n, hn⟩ := uC.1 h
 clear h
 induction n generalizing s σ H with
 | zero => cases hn
 | succ n ih =>
   intro aw low h1 h2 av
   simp only [nP] at hn
   cases ae : f s with
   | none => rw [ae] at hn; cases hn
   | some r =>
     rw [ae] at hn
     obtain ⟨x, dI, H', low', a7, ah, e2, b5, cU, ej⟩ := round s σ H r aZ ae aw low h1 h2 av
     rw [se, ah]
     cases r with
     | next ar =>
       obtain ⟨rfl, xN⟩ := ej
       exact ih xN hn dI low' e2 b5 cU
     | out o' =>
       cases hn
       obtain ⟨hx, oG⟩ := ej
       refine ⟨x, dI, H', low', a7, ?_, e2, b5, cU, oG⟩
       cases x <;> first | rfl | exact absurd rfl hx
theorem bind_some {α β : Type} {a : Option α} {f : α -> Option β} {r : β} (h : a.bind f = some r) : ∃ x, a = some x /\ f x = some r := dG.1 h
theorem px {α : Type} {c : Bool} {p q : Option α} {r : α} (h : (bif c then p else q) = some r) : (c = true /\ p = some r) \/ (c = false /\ q = some r) := by
 cases c
 · exact .inr ⟨rfl, h⟩
 · exact .inl ⟨rfl, h⟩
variable {α : Type} {es : Nat} {f : α -> V} {ag : aj -> V}
theorem uD {call : c3} {x : aj} {s : ak α} (h : ag x = bP es f s) (low : Nat) : b9 call ag H low (.len 1 x) = some (aI s.len, H, low) := by
 show step ag H low (.len 1 x) = _
 cases s <;> simp [step, h, bP, ak.len, ak.l]
theorem x3 {call : c3} {x i : aj} {s : ak α} {n : Int} {a : α} {k : IntKind} (h : ag x = bP es f s) (hi : ag i = .int k n) (hx : aR s.l n = some a) (low : Nat) : b9 call ag H low (.indexAddr es x i) = some (.dB (aG (f a)) 0, H, low) := by
 show step ag H low (.indexAddr es x i) = _
 unfold aR at hx
 split at hx
 · rename_i hn
   cases s <;> simp_all [step, bP, ak.l, jW]
 · cases hx
end
end Go.Abs
namespace Go.Abs
open Go
abbrev bQ := List UInt8
theorem kR {b : Bool} (h : b = true) : (!b) = false := by rw [h]; rfl
theorem kS {b : Bool} (h : b = false) : (!b) = true := by rw [h]; rfl
@[simp] theorem nQ {α : Type} (es : Nat) (f : α -> V) (s : ak α) : bO (bP es f s) = true := by cases s <;> rfl
@[simp] theorem ari (k : IntKind) (n : Int) : bO (.int k n) = true := rfl
@[simp] theorem arj (b : Bool) : bO (.bool b) = true := rfl
@[simp] theorem ark (b : List UInt8) : bO (.str b) = true := rfl
@[simp] theorem Mm (k : IntKind) (n : Int) : aG (.int k n) = [.int k n] := rfl
@[simp] theorem arl (b : Bool) : aG (.bool b) = [.bool b] := rfl
@[simp] theorem arn (b : List UInt8) : aG (.str b) = [.str b] := rfl
@[simp] theorem aft {α : Type} (es : Nat) (f : α -> V) (s : ak α) : eP (bP es f s) = true := by cases s <;> rfl
@[simp] theorem aro (k : IntKind) (n : Int) : eP (.int k n) = true := rfl
@[simp] theorem arp (b : Bool) : eP (.bool b) = true := rfl
@[simp] theorem arq (b : List UInt8) : eP (.str b) = true := rfl
@[simp] theorem ars : eP .c0 = true := rfl
@[simp] theorem art : eP .emp = true := rfl
@[simp] theorem aru : eP .iM = true := rfl
@[simp] theorem arv : eP .iN = true := rfl
@[simp] theorem arw : eP .jB = true := rfl
@[simp] theorem arx : eP .hU = true := rfl
@[simp] theorem ary (a o : Nat) : eP (.ptr a o) = true := rfl
@[simp] theorem arz (a : Nat) : eP (.map a) = true := rfl
@[simp] theorem arA (a : Nat) (x y : List V) : eP (.fn a x y) = true := rfl
@[simp] theorem arB (a : Nat) (x : List V) : eP (.list a x) = true := rfl
@[simp] theorem UT {α : Type} (es : Nat) (f : α -> V) (s : ak α) : aG (bP es f s) = [bP es f s] := by cases s <;> rfl
def Ak (a b : Int) : Option Int := if b = 0 then none else some (aQ (a.tdiv b))
def Al (a b : Int) : Option Int := if b = 0 then none else some (a.tmod b)
def UU (a b : bQ) : Option bQ := if a.length + b.length <= 2 ^ 40 then some (a ++ b) else none
inductive j8 (b es : Nat) : V -> ak V -> List (Nat × cE) -> Prop
 | nil : j8 b es .c0 .nil []
 | emp : j8 b es .emp .emp []
 | row (l : Nat) (ds : List V) (h : ds ≠ []) (hb : b <= l) : j8 b es (.cQ l es 0 ds.length ds.length) (.mk ds) [(l, .row es ds false)]
def ak.map {α β : Type} (f : α -> β) : ak α -> ak β
 | .nil => .nil
 | .emp => .emp
 | .mk l => .mk (l.map f)
abbrev ku {α : Type} (b es : Nat) (f : α -> V) (v : V) (s : ak α) (m : List (Nat × cE)) : Prop := j8 b es v (s.map f) m
theorem afu {α : Type} (es : Nat) (f : α -> V) (s : ak α) : bP es f s = bP es id (s.map f) := by cases s <;> simp [bP, ak.map]
def rv {α : Type} (bytes : Nat) (s y : ak α) : Option (ak α) :=
 if y.l = [] then some s else if (s.l.length + y.l.length) * (bytes + 1) <= 2 ^ 40 then some (.mk (s.l ++ y.l)) else none
def ry {α : Type} (s : ak α) (a c : Int) : Option (ak α) := match s with
 | .nil => if a = 0 /\ c = 0 then some .nil else none
 | .emp => if a = 0 /\ c = 0 then some .emp else none
 | .mk l => if 0 <= a /\ a <= c /\ c <= l.length then some (.mk ((l.take c.toNat).drop a.toNat)) else none
def oH (s : bQ) (a c : Int) : Option bQ := if 0 <= a /\ a <= c /\ c <= s.length then some ((s.take c.toNat).drop a.toNat) else none
def ak.isNil {α : Type} : ak α -> Bool
 | .nil => true
 | _ => false
def ie {K W : Type} [BEq K] (m : List (K × W)) (k : K) : Option W := (m.find? fun p => k == p.1).map (·.2)
def lC {K W : Type} [BEq K] : List (K × W) -> K -> W -> List (K × W)
 | [], k, w => [(k, w)]
 | p :: r, k, w => if k == p.1 then (k, w) :: r else p :: lC r k w
def vZ {α : Type} (bytes : Nat) (z : α) (n : Int) : Option (ak α) := if 0 <= n /\ n * (bytes + 1) <= 2 ^ 40 then some (if n = 0 then .emp else .mk (List.replicate n.toNat z)) else none
def nR {α : Type} (s : ak α) (i : Int) (e : α) : ak α := .mk (s.l.set i.toNat e)
mutual
theorem Mn {n : Nat} : ∀ {v : V}, bO v = true -> old n v = true
 | .bool _, _ | .int _ _, _ | .str _, _ | .c0, _ | .emp, _ | .iM, _ | .hU, _ | .jB, _ | .iN, _ | .list _ _, _ => rfl
 | .agg vs, h => by simp only [bO] at h; simp only [old]; exact CU h
 | .ba vs, h => by simp only [bO] at h; simp only [old]; exact CU h
 | .fn i a b, h => by simp only [bO, cd] at h; simp only [old, cd]; exact ⟨CU h.1, CU h.2⟩
 | .iface t v, h => by simp only [bO] at h; simp only [old]; exact Mn h
 | .ptr .., h | .gw .., h | .dB .., h | .cQ .., h | .map .., h | .yield .., h | .undef, h => by simp [bO] at h
theorem CU {n : Nat} : ∀ {vs : List V}, ct vs = true -> fc n vs = true
 | [], _ => rfl
 | v :: vs, h => by
   simp only [ct, cd] at h
   simp only [fc, cd]
   exact ⟨Mn h.1, CU h.2⟩
end
section
variable {ad : Nat -> Option ca} {b : Nat} {az σ : cb} {H : Heap} {wr : List Bool} {rest : List b3} {call : c3} {ag : aj -> V}
theorem Mo {c : cm} {Q : X -> cb -> Heap -> Prop} (P : X -> cb -> Heap -> Prop) (h : ft ad b c σ H P) (k : ∀ x a7 H', P x a7 H' -> Q x a7 H') : ft ad b c σ H Q := h.mono k
theorem py {c a d : aj} {β : Bool} (h : ag c = .bool β) (nO : β = true) : b9 call ag H H.length (.pick c a d) = some (ag a, H, H.length) := by rw [oD, h, nO]; rfl
theorem Am {c a d : aj} {β : Bool} (h : ag c = .bool β) (nO : β = false) : b9 call ag H H.length (.pick c a d) = some (ag d, H, H.length) := by rw [oD, h, nO]; rfl
theorem gZ {x : aj} {sh : Option Nat} {a o : Nat} {cs : List V} {v : V} (h : ag x = .ptr a o) (bt : H[a]? = some (.cells cs)) (hr : hJ cs o sh = some v) : b9 call ag H H.length (.load sh x) = some (v, H, H.length) := by
 rw [nb, h]; simp [jk, bt, hr]
theorem afv {x i : aj} {s : bQ} {k : IntKind} {n : Int} {c : UInt8} (h : ag x = .str s) (hi : ag i = .int k n) (hx : aR s n = some c) (low : Nat) : b9 call ag H low (.p6 x i) = some (.int .u8 c.toNat, H, low) := by
 show step ag H low (.p6 x i) = _
 unfold aR at hx
 split at hx
 · rename_i hn
   simp_all [step, jW]
 · cases hx
theorem afw {z : List V} {parts : List (Nat × Nat × aj)} {cs : List V} (h : tu z (parts.map fun p => (p.1, p.2.1, ag p.2.2)) = some cs) : b9 call ag H H.length (.build z parts) = some (.agg cs, H, H.length) := by
 show step ag H H.length (.build z parts) = _
 simp only [step, h]; rfl
theorem An : ∀ {vs : List V} {low : Nat}, ct vs = true -> fe H low vs = some (vs, H, low)
 | [], _, _ => rfl
 | v :: r, low, h => by
   simp only [ct, cd] at h
   simp only [fe, gl, eg, h.1, if_true, An h.2]
theorem x4 {d : Option (Nat × Bool)} {g : Option (aj × Bool)} {z : List V} {Q : cb -> Heap -> List Bool -> Prop} {ms : cW} (hw : hE az σ g = some true) (aD : Own H ms)
  (k : ∀ H' a, b <= a -> Own H' ([(a, .cells z)] :: ms) -> Op ad b rest (gL az d (.ptr a 0)) (gM σ d (.ptr a 0)) H' (true :: wr) Q) : Op ad b (⟨d, .alloc z, g⟩ :: rest) az σ H wr Q := by
 intro aE aw low h1 h2 av bc
 exact asN (o := ⟨d, .alloc z, g⟩) (mv := true) hw (fun hb => ⟨by simp; omega, H.length, hb, rp z, by simp [fJ]⟩) (k _ _ bc (aD.grow _)) aE aw low h1 h2 av bc
theorem Mp {d : Option (Nat × Bool)} {g : Option (aj × Bool)} {x : aj} {cs : List V} {Q : cb -> Heap -> List Bool -> Prop} {ms : cW} (hw : hE az σ g = some true) (aD : Own H ms) (hx : aG (bX az σ x) = cs) (hc : b4 cs = true)
  (k : ∀ H' a, b <= a -> Own H' ([(a, .cells cs)] :: ms) -> Op ad b rest (gL az d (.ptr a 0)) (gM σ d (.ptr a 0)) H' (true :: wr) Q) : Op ad b (⟨d, .box x, g⟩ :: rest) az σ H wr Q := by
 intro aE aw low h1 h2 av bc
 exact asN (o := ⟨d, .box x, g⟩) (mv := true) hw (fun hb => ⟨by simp; omega, H.length, hb, by simp only []; rw [vW, hx, if_pos hc], by simp [fJ]⟩) (k _ _ bc (aD.grow _)) aE aw low h1 h2 av bc
theorem UW {d : Option (Nat × Bool)} {g : Option (aj × Bool)} {Q : cb -> Heap -> List Bool -> Prop} {ms : cW} (hw : hE az σ g = some true) (aD : Own H ms)
  (k : ∀ H' a, b <= a -> Own H' ([(a, .map [])] :: ms) -> Op ad b rest (gL az d (.map a)) (gM σ d (.map a)) H' (true :: wr) Q) : Op ad b (⟨d, .mkMap, g⟩ :: rest) az σ H wr Q := by
 intro aE aw low h1 h2 av bc
 exact asN (o := ⟨d, .mkMap, g⟩) (mv := true) hw (fun hb => ⟨by simp; omega, H.length, hb, SS, by simp [fJ]⟩) (k _ _ bc (aD.grow _)) aE aw low h1 h2 av bc
theorem x5 {d : Option (Nat × Bool)} {g : Option (aj × Bool)} {n o a : Nat} {x y : aj} {cs vs cs' : List V} {Q : cb -> Heap -> List Bool -> Prop} {ms : cW} (hw : hE az σ g = some true) (aD : Own H ms) (k : Nat)
  (ai : ms[k]? = some [(a, .cells cs)]) (hb : b <= a) (hx : bX az σ x = .ptr a o) (hy : aG (bX az σ y) = vs) (hn : vs.length = n /\ o + n <= cs.length) (hc : b4 vs = true) (hs : setCells cs o vs = cs')
  (dq : ∀ H', Own H' (ms.set k [(a, .cells cs')]) -> Op ad b rest (gL az d .undef) (gM σ d .undef) H' (true :: wr) Q) : Op ad b (⟨d, .store n x y, g⟩ :: rest) az σ H wr Q := by
 have bt := aD.get k ai
 have aH := x2 bt
 refine asN (o := ⟨d, .store n x y, g⟩) (mv := true) (H1 := H.set a (.cells cs')) hw (fun du => ⟨by simpa using du, a, hb, ?_, by simp [fJ, aH]⟩) (dq _ (aD.put k ai))
 simp only [lB, hx, iO, bt, hy]
 rw [if_pos ⟨hn.1, by omega, hc⟩]
 subst hs
 simp [r7 aH]
theorem Ao {f : aj} {aY : List aj} {fv v : V} {vs : List V} (hc : call fv vs H = some (v, H, H.length)) (aP : fe H H.length vs = some (vs, H, H.length)) (ao : aY.map ag = vs) (ae : ag f = fv) : b9 call ag H H.length (.call false f aY) = some (v, H, H.length) := by
 subst ao; subst ae
 rw [qx, aP]
 simp [hc]
theorem afx {low : Nat} : fe H low [] = some ([], H, low) := rfl
theorem UX {low : Nat} {v : V} {vs : List V} (h : bO v = true) (r : fe H low vs = some (vs, H, low)) : fe H low (v :: vs) = some (v :: vs, H, low) := by
 simp only [fe, gl, eg, h, if_true, r]
theorem UY {low : Nat} {v : V} {vs : List V} (h : ∀ H low, gl H low v = some (v, H, low)) (r : fe H low vs = some (vs, H, low)) : fe H low (v :: vs) = some (v :: vs, H, low) := by
 simp only [fe, h, r]
theorem UZ {es : Nat} {z : V} : ∀ (vs pre : List V), (∀ v ∈ vs, (aG v).length = es /\ b4 (aG v) = true) -> tv es (pre ++ List.replicate vs.length z) ((List.range' pre.length vs.length).zip vs) = some (pre ++ vs)
 | [], pre, _ => by simp [tv]
 | v :: vs, pre, h => by
   have af := h v (by simp)
   simp only [iv, th, JL, tv]
   rw [if_pos ⟨af.1, by simp, af.2⟩]
   have e : (pre ++ List.replicate (vs.length + 1) z).set pre.length v = (pre ++ [v]) ++ List.replicate vs.length z := by
    rw [Bw]; simp
   rw [e]
   have := UZ (es := es) (z := z) vs (pre ++ [v]) (fun u hu => h u (by simp [hu]))
   simp only [kg, iv, qQ, eF] at this
   rw [this]; simp
theorem afy {es n : Nat} {z vs : List V} {parts : List (Nat × aj)} (af : (parts.map fun p => ag p.2) = vs) (hi : parts.map Prod.fst = List.range' 0 vs.length) (hn : vs.length = n) (h0 : (n = 0) = False) (hp : ct vs = true) (hc : ∀ v ∈ vs, (aG v).length = es /\ b4 (aG v) = true) :
  b9 call ag H H.length (.lit es z n parts true) = some (.list es vs, H, H.length) := by
 have aP : (parts.zip vs).map (fun (p, v) => (p.1, v)) = (List.range' 0 vs.length).zip vs := by
  rw [<- hi]
  clear hi hp hc hn
  subst af
  induction parts with
  | nil => rfl
  | cons p ps ih => simp [ih]
 have ae := UZ (es := es) (z := lO z) vs [] hc
 simp only [oZ, qQ] at ae
 rw [SU]
 simp only [step, af, An hp]
 rw [aP, <- hn, ae]
 simp only [hp, if_true, hn, h0, if_false]
theorem afz {es : Nat} {z : List V} {x : V} (h : x = V.emp) : b9 call ag H H.length (.lit es z 0 [] true) = some (x, H, H.length) := by
 rw [SU, h]; simp [step, fe, tv, ct]
def x6 (ag : aj -> V) (x : Option aj) (JV a : Int) : Prop := (x = none /\ a = JV) \/ ∃ o, x = some o /\ ag o = aI a
theorem x6.eq {x : Option aj} {d a : Int} (h : x6 ag x d a) {n : Nat} (hd : d = n) (ao : 0 <= a) : eG ag n x = some a.toNat := by
 rcases h with ⟨rfl, rfl⟩ | ⟨o, rfl, e⟩
 · subst hd; rfl
 · simp [eG, e, jW, ao]
theorem GV {α : Type} {es : Nat} {f : α -> V} {s ar : ak α} {x : aj} {lo hi : Option aj} {a c : Int} (hs : ry s a c = some ar) (ao : x6 ag lo 0 a) (hc : x6 ag hi s.len c) (h : ag x = bP es f s) : b9 call ag H H.length (.r9 es x lo hi none) = some (bP es f ar, H, H.length) := by
 rw [SV]
 cases s with
 | nil =>
   simp only [ry] at hs
   split at hs
   · rename_i q; obtain ⟨rfl, rfl⟩ := q; cases hs
     simp only [step, h, bP]
     rw [ao.eq (n := 0) rfl (Int.le_refl _), hc.eq (n := 0) rfl (Int.le_refl _)]
     rfl
   · cases hs
 | emp =>
   simp only [ry] at hs
   split at hs
   · rename_i q; obtain ⟨rfl, rfl⟩ := q; cases hs
     simp only [step, h, bP]
     rw [ao.eq (n := 0) rfl (Int.le_refl _), hc.eq (n := 0) rfl (Int.le_refl _)]
     rfl
   · cases hs
 | mk l =>
   simp only [ry] at hs
   split at hs
   · rename_i q; obtain ⟨q1, aS, bZ⟩ := q; cases hs
     have ah := ao.eq (n := 0) rfl q1
     have e2 := hc.eq (n := (l.map f).length) (by simp [ak.len, ak.l]) (by omega)
     simp only [step, h, bP, ah, e2]
     rw [if_pos ⟨by omega, by simp; omega, trivial⟩]
     simp
   · cases hs
theorem GW {s ar : bQ} {x : aj} {lo hi : Option aj} {a c : Int} (hs : oH s a c = some ar) (ao : x6 ag lo 0 a) (hc : x6 ag hi (s.length : Int) c) (h : ag x = .str s) : b9 call ag H H.length (.o1 x lo hi) = some (.str ar, H, H.length) := by
 show step ag H H.length (.o1 x lo hi) = _
 unfold oH at hs
 split at hs
 · rename_i q; obtain ⟨q1, aS, bZ⟩ := q; cases hs
   simp only [step, h, ao.eq (n := 0) rfl q1, hc.eq (n := s.length) rfl (by omega)]
   rw [if_pos ⟨by omega, by omega⟩]
 · cases hs
theorem j8.cells {b es : Nat} {v : V} {s : ak V} {m : List (Nat × cE)} (h : j8 b es v s m) : aG v = [v] := by cases h <;> rfl
theorem j8.eP {b es : Nat} {v : V} {s : ak V} {m : List (Nat × cE)} (h : j8 b es v s m) : Abs.eP v = true := by cases h <;> rfl
theorem GX {α : Type} (es : Nat) (f : α -> V) (s : ak α) : elems H es (bP es f s) = some (s.l.map f) := by cases s <;> simp [elems, bP, ak.l]
theorem GY {α : Type} {f : α -> V} (h : ∀ a, bO (f a) = true) : ∀ l : List α, ct (l.map f) = true
 | [] => rfl
 | a :: l => by simp [ct, h a, GY h l]
theorem U0 {α : Type} {f : α -> V} (h : ∀ a, b4 (aG (f a)) = true) : ∀ l : List α, b4 ((l.map f).flatMap aG) = true
 | [] => rfl
 | a :: l => by
   have app : ∀ x y : List V, b4 (x ++ y) = (b4 x && b4 y) := fun x y => by
    induction x with
    | nil => simp [b4]
    | cons c x ih => simp [b4, ih, BB]
   simp [app, h a, U0 h l]
theorem U1 {α : Type} {es bytes : Nat} {f : α -> V} {s y ar : ak α} {d : Option (Nat × Bool)} {g : Option (aj × Bool)} {sJ oq : aj} {e0 : V} {m : List (Nat × cE)} {Q : cb -> Heap -> List Bool -> Prop} {ms : cW} (hw : hE az σ g = some true) (k : Nat)
  (hs : rv bytes s y = some ar) (aD : Own H ms) (ai : ms[k]? = some m) (hr : ku b es f e0 s m) (ao : bX az σ sJ = e0) (hb : bX az σ oq = bP es f y) (hp : ∀ a, bO (f a) = true) (hc : ∀ a, b4 (aG (f a)) = true)
  (dq : ∀ H' v' m' mv, ku b es f v' ar m' -> Own H' (ms.set k m') -> Op ad b rest (gL az d v') (gM σ d v') H' (mv :: wr) Q) : Op ad b (⟨d, .append es bytes sJ oq, g⟩ :: rest) az σ H wr Q := by
 intro aE aw low h1 h2 av bc
 have sB : ms.set k m = ms := by
  apply zn
  intro i
  by_cases e : k = i
  · subst e; rw [tc (fy.1 ai).1, ai]
  · rw [k4 e]
 have hfz : fe H H.length (y.l.map f) = some (y.l.map f, H, H.length) := An (GY hp _)
 have CV := U0 hc y.l
 unfold rv at hs
 by_cases hy : y.l = []
 · rw [if_pos hy] at hs
   cases hs
   refine asN (o := ⟨d, .append es bytes sJ oq, g⟩) (mv := false) (v := e0) (H1 := H) hw (fun du => ⟨du, H.length, du, ?_, lZ H⟩) (dq H e0 m false hr (by rw [sB]; exact aD)) aE aw low h1 h2 av bc
   rw [Gy]
   simp only [step, hb, GX]
   rw [hfz, hy]
   simp only [n5, List.isEmpty_nil, if_true, ao]
   have fT : j8 b es e0 (s.map f) m := hr
   generalize x7 : s.map f = lD at fT
   cases fT with
   | nil => rfl
   | emp => rfl
   | row l ds h lS => simp [aD.get k ai]
 · rw [if_neg hy] at hs
   split at hs
   · rename_i hz
     cases hs
     have bA : (y.l.map f).isEmpty = false := by cases afA : y.l with
      | nil => exact absurd afA hy
      | cons => rfl
     have Mq : (b4 ((y.l.map f).flatMap aG) = false) = False := by rw [CV]; simp
     have fT : j8 b es e0 (s.map f) m := hr
     generalize x7 : s.map f = lD at fT
     cases fT with
     | nil =>
       have iz : s.l = [] := by cases s <;> simp_all [ak.map, ak.l]
       have Mr : (y.l.map f).length * (bytes + 1) <= 2 ^ 40 := by simpa [iz] using hz
       refine asN (o := ⟨d, .append es bytes sJ oq, g⟩) (mv := true) (v := .cQ H.length es 0 (y.l.map f).length (y.l.map f).length) (H1 := H ++ [.row es (y.l.map f) false]) hw
        (fun du => ⟨by simp; omega, H.length, du, ?_, by simp [fJ]⟩) (dq _ _ [(H.length, .row es (y.l.map f) false)] true ?_ (aD.fill k ai)) aE aw low h1 h2 av bc
       · rw [Gy]
         simp only [step, hb, GX]
         rw [hfz]
         simp only [bA, gX, if_false, Mq, ao, Mr, if_true]
       · simp only [iz, oZ, ak.map]
         exact .row _ _ (by simpa using hy) bc
     | emp =>
       have iz : s.l = [] := by cases s <;> simp_all [ak.map, ak.l]
       have Mr : (y.l.map f).length * (bytes + 1) <= 2 ^ 40 := by simpa [iz] using hz
       refine asN (o := ⟨d, .append es bytes sJ oq, g⟩) (mv := true) (v := .cQ H.length es 0 (y.l.map f).length (y.l.map f).length) (H1 := H ++ [.row es (y.l.map f) false]) hw
        (fun du => ⟨by simp; omega, H.length, du, ?_, by simp [fJ]⟩) (dq _ _ [(H.length, .row es (y.l.map f) false)] true ?_ (aD.fill k ai)) aE aw low h1 h2 av bc
       · rw [Gy]
         simp only [step, hb, GX]
         rw [hfz]
         simp only [bA, gX, if_false, Mq, ao, Mr, if_true]
       · simp only [iz, oZ, ak.map]
         exact .row _ _ (by simpa using hy) bc
     | row l ds hd lS =>
       have iz : s.l.map f = ds := by cases s <;> simp_all [ak.map, ak.l]
       have hlen : s.l.length = ds.length := by rw [<- iz, n4]
       have bt := aD.get k ai
       have aH := x2 bt
       refine asN (o := ⟨d, .append es bytes sJ oq, g⟩) (mv := true) (v := .cQ l es 0 (ds ++ y.l.map f).length (ds ++ y.l.map f).length) (H1 := H.set l (.row es (ds ++ y.l.map f) false)) hw
        (fun du => ⟨by simpa using du, l, lS, ?_, by simp [fJ, aH]⟩) (dq _ _ [(l, .row es (ds ++ y.l.map f) false)] true ?_ (aD.put k ai)) aE aw low h1 h2 av bc
       · rw [Gy]
         simp only [step, hb, GX]
         rw [hfz]
         simp only [bA, gX, if_false, Mq, ao, bt, kg]
         rw [if_pos ⟨trivial, trivial, trivial, trivial, trivial, by rw [hlen] at hz; simpa using hz⟩, ti (r7 aH)]
         done
       · show j8 b es _ (.mk ((s.l ++ y.l).map f)) _
         rw [oY, iz]
         exact .row _ _ (by simp [hd]) lS
   · cases hs
def uE : Nat -> List V -> cb
 | _, [] => nN
 | i, v :: r => up (uE (i + 1) r) i v
theorem Ms : ∀ (i : Nat) (vs : List V), Fits (iP i vs) (uE i vs)
 | _, [] => sH
 | i, v :: r => UO (Ms (i + 1) r) i v
inductive rz (σ : cb) (H : Heap) : List lN -> List V -> Prop
 | nil : rz σ H [] []
 | tmp {t : Nat} {v : V} {rs : List lN} {vs : List V} (h : σ t = v) (r : rz σ H rs vs) : rz σ H (.tmp t :: rs) (v :: vs)
 | cell {a l o : Nat} {sh : Option Nat} {cs : List V} {v : V} {rs : List lN} {vs : List V} (h : σ a = .ptr l o) (bt : H[l]? = some (.cells cs)) (hr : hJ cs o sh = some v) (r : rz σ H rs vs) : rz σ H (.cell a sh :: rs) (v :: vs)
theorem rz.eq {aw : Env} (ae : Fits aw σ) : ∀ {rs : List lN} {vs : List V}, rz σ H rs vs -> hZ aw H rs = some vs
 | _, _, .nil => rfl
 | _, _, .tmp h r => by simp only [hZ, lP, r.eq ae, ae _, h]
 | _, _, .cell h bt hr r => by simp only [hZ, lP, ae _, h, jk, bt, hr, r.eq ae]
@[simp] theorem arC {α : Type} {es : Nat} {f : α -> V} {s : ak α} {l n : Nat} : bO (.cQ l es 0 n n) = false := rfl
def nd (b n : Nat) (ms : cW) (v v' : V) (hF : cW) : Prop := ∀ H low, Own H ms -> b <= low -> ∃ H' low', eg n H low v = some (v', H', low') /\ Own H' hF /\ b <= low'
def pz (b n : Nat) (ms : cW) (vs vs' : List V) (hF : cW) : Prop := ∀ H low, Own H ms -> b <= low -> ∃ H' low', kj (eg n) H low vs = some (vs', H', low') /\ Own H' hF /\ b <= low'
theorem nd.plain {n : Nat} {ms : cW} {v : V} (h : bO v = true) : nd b n ms v v ms := fun H low aD hb => ⟨H, low, by cases n <;> simp [eg, h], aD, hb⟩
theorem pz.nil {n : Nat} {ms : cW} : pz b n ms [] [] ms := fun H low aD hb => ⟨H, low, rfl, aD, hb⟩
theorem pz.cons {n : Nat} {ms U2 U3 : cW} {v v' : V} {vs vs' : List V} (h : nd b n ms v v' U2) (r : pz b n U2 vs vs' U3) : pz b n ms (v :: vs) (v' :: vs') U3 := fun H low aD hb => by
 obtain ⟨H1, b0, ah, gU, ec⟩ := h H low aD hb
 obtain ⟨H2, dv, e2, Mt, gJ⟩ := r H1 b0 gU ec
 exact ⟨H2, dv, by simp only [kj, ah, e2], Mt, gJ⟩
theorem nd.ba {n : Nat} {ms hF : cW} {vs vs' : List V} (h : pz b n ms vs vs' hF) (hp : ct vs = false) : nd b (n + 1) ms (.ba vs) (.ba vs') hF := fun H low aD hb => by
 obtain ⟨H1, b0, ah, gU, ec⟩ := h H low aD hb
 exact ⟨H1, b0, by simp only [eg, bO, hp, gX, if_false, ah], gU, ec⟩
theorem nd.agg {n : Nat} {ms hF : cW} {vs vs' : List V} (h : pz b n ms vs vs' hF) (hp : ct vs = false) : nd b (n + 1) ms (.agg vs) (.agg vs') hF := fun H low aD hb => by
 obtain ⟨H1, b0, ah, gU, ec⟩ := h H low aD hb
 exact ⟨H1, b0, by simp only [eg, bO, hp, gX, if_false, ah], gU, ec⟩
def rA (m : List (Nat × cE)) : List (Nat × cE) := m.map fun p => (p.1, match p.2 with | .row es ds _ => .row es ds true | o => o)
theorem nd.row {α : Type} {n es : Nat} {f : α -> V} {s : ak α} {v : V} {m : List (Nat × cE)} {ms : cW} (k : Nat) (ai : ms[k]? = some m) (hr : ku b es f v s m) (hp : ∀ a, bO (f a) = true) : nd b (n + 1) ms v (bP es f s) (ms.set k (rA m)) := fun H low aD hb => by
 have sB : ∀ m', m' = m -> ms.set k m' = ms := fun m' hm => by
  apply zn
  intro i
  by_cases e : k = i
  · subst e; rw [tc (fy.1 ai).1, ai, hm]
  · rw [k4 e]
 rw [afu]
 have fT : j8 b es v (s.map f) m := hr
 generalize x7 : s.map f = lD at fT
 clear hr
 cases fT with
 | nil => exact ⟨H, low, rfl, by rw [sB (rA []) rfl]; exact aD, hb⟩
 | emp => exact ⟨H, low, rfl, by rw [sB (rA []) rfl]; exact aD, hb⟩
 | row l ds h lS =>
   have si : ct ds = true := by
    cases s <;> simp [ak.map] at x7
    rw [<- x7]; exact GY hp _
   refine ⟨H.set l (.row es ds true), min low l, ?_, aD.put k ai, by omega⟩
   simp [eg, bO, aD.get k ai, si, bP]
def one : List V -> V
 | [x] => x
 | us => .ba us
def GZ (rs : List lN) (σ : cb) (H : Heap) (b : Nat) (v : V) : Prop :=
 ∃ (us : List V) (u : V) (ms hF : cW), rz σ H rs us /\ one us = u /\ Own H ms /\ nd b 16 ms u v hF
theorem U4 {rs : List lN} {us : List V} {v : V} (h : rz σ H rs us) (he : one us = v) (hp : bO v = true) : GZ rs σ H b v :=
 ⟨us, v, [], [], h, he, .nil H, .plain hp⟩
theorem U5 {rs : List lN} {us : List V} {u v : V} {ms hF : cW} (h : rz σ H rs us) (he : one us = u) (aD : Own H ms) (hp : nd b 16 ms u v hF) : GZ rs σ H b v :=
 ⟨us, u, ms, hF, h, he, aD, hp⟩
theorem U6 {i : Nat} {f : iw} {args caps : List V} {v : V} (dX : ad i = some (.code f)) (hl : (args ++ caps).length <= f.vl) (eT : f.fresh = false)
  (h : ft ad H.length f.body (uE 0 (args ++ caps)) H fun x a7 H' => (x = .normal \/ x = .ret) /\ GZ f.results a7 H' H.length v) (hp : bO v = true) :
  cK ad (.fn i [] caps) args H = some (v, H, H.length) := by
 obtain ⟨x, dI, H', low', a7, ah, e2, b5, cU, ej, us, u, ms, hF, jH, v7, afB, tL⟩ := h _ H.length (Ms 0 _) (aK _) (aK _)
 obtain ⟨H2, dv, ch, -, eL⟩ := tL H' low' afB b5
 have cO := jH.eq e2
 have hold : old H.length v = true := Mn hp
 have h9 : ∀ w, w = u -> finish f.fresh H w H' low' = some (v, H, H.length) := fun w hw => by
  subst hw
  rw [eT]
  unfold finish
  split
  · simp_all
  · simp only [gl, ch, eL, hold, and_self, if_true]
 rw [sf, dX]
 simp only [oZ, jl]
 rw [if_pos hl, ah]
 rcases ej with rfl | rfl
 · simp only [cO]
   match us, v7 with
   | [w], hu => exact h9 w hu
   | [], hu => exact h9 _ hu
   | a :: b :: r, hu => exact h9 _ hu
 · simp only [cO]
   match us, v7 with
   | [w], hu => exact h9 w hu
   | [], hu => exact h9 _ hu
   | a :: b :: r, hu => exact h9 _ hu
end
end Go.Abs
