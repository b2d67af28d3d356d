/- Texts of this claim, joined and written short by a program. -/
import Derived.Test.YtjgngmpmjbkbpaaGreatDoorP15
import Derived.Test.YtjgngmpmjbkbpaaGreatDoorP02
import Derived.Test.YtjgngmpmjbkbpaaGreatDoorProg
import Derived.Test.YtjgngmpmjbkbpaaGreatDoorP04
import Derived.Tactics
import Derived.Tactics2
import Derived.Defers
import Derived.Recover
import Derived.Laws.Pointers
import Derived.TacticsInMore
import Derived.RegionIn
import Derived.LoopNIn
import Derived.RecoverIn
import Derived.Shelf.Strings.OnBuilder
import Derived.Shelf.Strings.Trim
import Derived.Shelf.Small.Bits
import Derived.Shelf.Small.Strs
import Derived.Shelf.Strconv.Atoi
import Derived.Shelf.Strconv.Itoa3
import Derived.Shelf.Strings.Fields
import Derived.Lib.ItoaNum
import Derived.Below
import Derived.Test.YtjgngmpmjbkbpaaGreatDoorP00
set_option linter.unusedVariables false
set_option linter.unusedSimpArgs false
set_option linter.unusedSectionVars false
namespace Go.Abs
open Go
variable {C : Ctx} {fid : Nat -> Nat} {w w' : World} {G G' : bT} {H H' : Heap}
section
variable {vars : List Nat} {N : Nat} {call : c3} {n : Nat}
def c1 (C : Ctx) (fid : Nat -> Nat) (vars : List Nat) (N : Nat) (c : Code) (st : au) (Out : X -> au -> Prop) : Prop :=
 ∀ (G : bT) (a : Act) (w : World) (ro : Option Nat) (base : Nat) (Q : Exit -> Act -> World -> Prop), dx C fid vars N G st a w -> ua G st.ro ro -> j7 C G w base a.defers -> base <= w.heap.size ->
   (∀ x aU G' bf w', Out x aU -> fU st aU -> Fin C fid vars N base st G w aU G' bf w' -> Q (z1 x) bf w') -> c.wpIn (ek ro) 0 C.P Q a w
theorem c1.exec (cC : C.P.follows .mixedOrders = true) (bx : eR C fid) (bj : gx C fid call) {c : Code} {ac : cm} (hc : C.code vars N c = some ac) {st aU : au} {x : X} (he : Abs.exec call n ac st = some (x, aU)) :
  c1 C fid vars N c st (fun y s => y = x /\ s = aU) := fun G a w ro base Q aa eB ev hb dy =>
 qo (n := n) cC bx bj c _ _ _ hc _ _ _ he G a w ro base Q aa eB ev hb fun G' bf w' F => dy x aU G' bf w' ⟨rfl, rfl⟩ (lq bj.bN n _ _ _ _ aa.low he) F
theorem c1.mono {c : Code} {st : au} {Out SB : X -> au -> Prop} (h : c1 C fid vars N c st Out) (hm : ∀ x s, Out x s -> SB x s) : c1 C fid vars N c st SB := fun G a w ro base Q aa eB ev hb dy =>
 h G a w ro base Q aa eB ev hb fun x s G' bf w' ho => dy x s G' bf w' (hm x s ho)
theorem c1.seq {c d : Code} {st : au} {Gq Out : X -> au -> Prop} (h1 : c1 C fid vars N c st Gq) (h2 : ∀ s, Gq .normal s -> c1 C fid vars N d s Out) (av : ∀ x s, x ≠ .normal -> Gq x s -> Out x s) :
  c1 C fid vars N (.seq c d) st Out := fun G a w ro base Q aa eB ev hb dy => by
 refine wpIn_seq (h1 G a w ro base _ aa eB ev hb fun x s ax al aC ho ae F => ?_)
 cases x with
 | normal =>
   refine h2 s ho ax al aC ro base _ F.rel (by rw [ae.2]; exact eB.ext (F.ext 0 (cx _))) F.marks (c4 hb (F.ext 0 (cx _)).size) fun cq s2 bq a2 bB adf xS sA => ?_
   exact dy cq s2 bq a2 bB adf (ae.trans xS) (F.trans sA ae xS)
 | exit id => exact dy (.exit id) s ax al aC (av _ _ (by simp) ho) ae F
 | ret => exact dy .ret s ax al aC (av _ _ (by simp) ho) ae F
structure L8 (C : Ctx) (vars : List Nat) (N : Nat) (c : Code) (R : e9) : Prop where
 ok : ∃ (i0 i1 i2 : Nat) (gK on ja : Oper) (jO jP jb : Array Oper) (oC mX mY : List Oper) (mt aF more pair out : Nat) (tm qq qs : TypeId) (body : Code),
  c = .seq (.region i0 jO false) (.block out (.loop (.seq (.region i1 jP false) (.seq (.cond (.tmp more) .skip (.exit out)) (.block R.ep (.seq (.region i2 jb false) body)))))) /\
  jO.toList = oC ++ [gK] /\ dH (C.oper vars N jO) oC = some R.t0 /\ C.bV vars (.tmp mt) = some R.src /\ gK.op = .range tm (.tmp mt) /\ gK.dst = some R.it /\ gK.guard = none /\ R.it < N /\ C.P.underlying tm = some (.map qq qs) /\
  jP.toList = on :: mX /\ on.op = .next (.tmp R.it) false /\ on.dst = some aF /\ on.guard = none /\ aF < N /\
  jb.toList = ja :: mY /\ ja.op = .entry (.tmp R.it) /\ ja.dst = some pair /\ ja.guard = none /\ pair < N /\
  vars.contains R.it = true /\ R.aF = (aF, vars.contains aF) /\ R.pair = (pair, vars.contains pair) /\
  dH (C.oper vars N jP) mX = some R.t1 /\ dH (C.oper vars N jb) mY = some R.t2 /\ C.bV vars (.tmp more) = some R.more /\ C.code vars N body = some R.body
theorem c1.range (cC : C.P.follows .mixedOrders = true) (bx : eR C fid) (bj : gx C fid call) {c : Code} {R : e9} (hc : L8 C vars N c R) {iC st : au} {wr : List Bool} (he : c9 call R.t0 { iC with aE := [] } [] = some (st, wr))
  {l : Nat} {bk : List (V × V)} (qt : R.src.ag st.aE st.aw = .map l) (mZ : st.H[l]? = some (.map bk)) (Inv : List Nat -> au -> Prop) (Out : au -> Prop)
  (ur : Inv [] (hD R.it st)) (rm : ∀ d s, Inv d s -> bJ s.aw R.it = .ptr st.H.length 0)
  (oB : ∀ d s, Inv d s -> ∀ i kv, i ∉ d -> bk[i]? = some kv -> ∃ ar, R.round call n kv.1 kv.2 s = some ar /\ st.H.length < ar.low /\ Inv (d ++ [i]) ar)
  (h9 : ∀ d s, Inv d s -> d.Nodup -> (∀ i, i ∈ d ↔ i < bk.length) -> ∃ ar, R.fin call s = some ar /\ st.H.length < ar.low /\ Out ar) :
  c1 C fid vars N c iC (fun x s => x = .normal /\ ∃ ar, Out ar /\ s = { ar with low := min st.low st.H.length }) := fun G a w ro base Q aa eB ev hb dy => by
 obtain ⟨i0, i1, i2, gK, on, ja, jO, jP, jb, oC, mX, mY, mt, aF, more, pair, out, tm, qq, qs, body, rfl, h0, ou, ug, ri, uh, ui, hit, uj, h1, pn, hnd, rj, mQ, h2, rk, uk, um, uo, po, rl, uq, pd, nA, pq, vS⟩ := hc.ok
 exact ade cC bx bj h0 ou ug ri uh ui hit uj h1 pn hnd rj mQ h2 rk uk um uo po rl uq pd nA pq vS rfl rfl he qt mZ Inv Out ur rm oB h9 aa eB ev hb
  fun ar G' bf w' ho ae F => dy .normal _ G' bf w' ⟨rfl, ar, ho, rfl⟩ ae F
def xT {α : Type} : List α -> Option (List α × α)
 | [] => none
 | a :: l => match xT l with
   | none => some ([], a)
   | some (r, b) => some (a :: r, b)
theorem adg {α : Type} : ∀ {l : List α}, xT l = none -> l = []
 | [], _ => rfl
 | a :: l, h => by simp only [xT] at h; split at h <;> cases h
theorem L9 {α : Type} : ∀ {l r : List α} {b : α}, xT l = some (r, b) -> l = r ++ [b]
 | [], _, _, h => by cases h
 | a :: l, r, b, h => by
   simp only [xT] at h
   split at h
   · rename_i hn; cases h; rw [adg hn]; rfl
   · rename_i n6 eE hn; cases h; rw [L9 hn]; rfl
def xU (C : Ctx) (vars : List Nat) (N : Nat) : Code -> Option e9
 | .seq (.region _ jO false) (.block out (.loop (.seq (.region _ jP false) (.seq (.cond (.tmp more) .skip (.exit SC)) (.block ep (.seq (.region _ jb false) body)))))) =>
   match xT jO.toList, jP.toList, jb.toList with
   | some (oC, ⟨some it, .range tm (.tmp mt), _, _, _, none⟩), ⟨some aF, .next (.tmp SD) false, _, _, _, none⟩ :: mX, ⟨some pair, .entry (.tmp SE), _, _, _, none⟩ :: mY =>
     match C.P.underlying tm, dH (C.oper vars N jO) oC, C.bV vars (.tmp mt), dH (C.oper vars N jP) mX, dH (C.oper vars N jb) mY, C.bV vars (.tmp more), C.code vars N body with
     | some (.map _ _), some t0, some src, some t1, some t2, some ss, some b =>
       if SC = out /\ SD = it /\ SE = it /\ it < N /\ aF < N /\ pair < N /\ vars.contains it = true then some ⟨t0, src, it, (aF, vars.contains aF), t1, ss, ep, (pair, vars.contains pair), t2, b⟩ else none
     | _, _, _, _, _, _, _ => none
   | _, _, _ => none
 | _ => none
theorem SF {c : Code} {R : e9} (h : xU C vars N c = some R) : L8 C vars N c R := by
 unfold xU at h
 split at h
 · rename_i i0 jO out i1 jP more SC ep i2 jb body
   split at h
   · rename_i oC it tm mt aq3 aq4 aq5 aF SD aq6 Ly aq7 mX pair SE aq8 aq9 ara mY ez ah e2
     split at h
     · rename_i qq qs t0 src t1 t2 ss b kJ adh us o6 adi adj adk
       split at h
       · rename_i hc
         obtain ⟨rfl, rfl, rfl, h1, h2, av, bc⟩ := hc
         cases h
         exact ⟨_, _, _, _, _, _, _, _, _, _, _, _, _, _, _, _, _, _, _, _, _, rfl, L9 ez, adh, us, rfl, rfl, rfl, h1, kJ, ah, rfl, rfl, rfl, h2, e2, rfl, rfl, rfl, av, bc, rfl, rfl, o6, adi, adj, adk⟩
       · cases h
     · cases h
   · cases h
 · cases h
def CO (d : List Nat) (k : Nat) : List Nat := (List.range k).filter fun i => !d.contains i
def e9.all (R : e9) (call : c3) (n : Nat) (bk : List (V × V)) (li : Nat) : Nat -> List Nat -> au -> Option (List au)
 | 0, _, _ => none
 | f + 1, d, s =>
   if dN (bJ s.aw R.it) (.ptr li 0) = true then
    match CO d bk.length with
    | [] => match R.fin call s with
      | some ar => if Nat.blt li ar.low = true then some [ar] else none
      | none => none
    | i :: is => (dH (fun i => match bk[i]? with
        | some kv => match R.round call n kv.1 kv.2 s with
          | some ar => if Nat.blt li ar.low = true then R.all call n bk li f (d ++ [i]) ar else none
          | none => none
        | none => none) (i :: is)).map List.flatten
   else none
theorem SG {α β : Type} {f : α -> Option β} : ∀ {l : List α} {aL : List β}, dH f l = some aL -> ∀ {a : α}, a ∈ l -> ∃ b ∈ aL, f a = some b
 | [], _, _, _, h => by cases h
 | x :: l, aL, hm, a, h => by
   simp only [dH] at hm
   split at hm
   · rename_i b hb
     split at hm
     · rename_i arb B5
       cases hm
       rcases dS.1 h with rfl | h
       · exact ⟨b, by simp, hb⟩
       · obtain ⟨eE, h1, h2⟩ := SG B5 h
         exact ⟨eE, by simp [h1], h2⟩
     · cases hm
   · cases hm
theorem e9.Ma {R : e9} {bk : List (V × V)} {li f : Nat} {d : List Nat} {s : au} {o : List au} (h : R.all call n bk li f d s = some o) : bJ s.aw R.it = .ptr li 0 := by
 cases f with
 | zero => cases h
 | succ f =>
   simp only [e9.all] at h
   split at h
   · rename_i bD; exact tV _ _ bD
   · cases h
theorem c1.adl (cC : C.P.follows .mixedOrders = true) (bx : eR C fid) (bj : gx C fid call) {c : Code} {R : e9} (hc : L8 C vars N c R) {iC st : au} {wr : List Bool} (he : c9 call R.t0 { iC with aE := [] } [] = some (st, wr)) {l : Nat} {bk : List (V × V)}
  (qt : R.src.ag st.aE st.aw = .map l) (mZ : st.H[l]? = some (.map bk)) {f : Nat} {outs : List au} (ao : R.all call n bk st.H.length f [] (hD R.it st) = some outs) :
  c1 C fid vars N c iC (fun x s => x = .normal /\ ∃ ar ∈ outs, s = { ar with low := min st.low st.H.length }) := by
 refine c1.range (n := n) cC bx bj hc he qt mZ (fun d s => ∃ f o, R.all call n bk st.H.length f d s = some o /\ ∀ x ∈ o, x ∈ outs) (fun s => s ∈ outs) ⟨f, outs, ao, fun _ h => h⟩ (fun d s ⟨f, o, h, _⟩ => e9.Ma h) ?_ ?_
 · rintro d s ⟨f, o, h, hs⟩ i kv hid kP
   have hit := e9.Ma h
   have qu : i < bk.length := by
    rcases gg i bk.length with q | q
    · exact q
    · rw [mF q] at kP; cases kP
   have dn : i ∈ CO d bk.length := by
    unfold CO
    simp [qu, hid]
   cases f with
   | zero => cases h
   | succ f =>
     simp only [e9.all, hit] at h
     split at h
     · split at h
       · rename_i hr; rw [hr] at dn; cases dn
       · rename_i j is hr
         rw [hr] at dn
         obtain ⟨os, zD, rfl⟩ := cD.1 h
         obtain ⟨b, hb, xV⟩ := SG zD dn
         rw [kP] at xV
         simp only at xV
         split at xV
         · rename_i ar fT
           split at xV
           · rename_i ix
             refine ⟨ar, fT, ?_, f, b, xV, fun x hx => hs x (List.mem_flatten.2 ⟨b, hb, hx⟩)⟩
             have := k3 ix
             omega
           · cases xV
         · cases xV
     · cases h
 · rintro d s ⟨f, o, h, hs⟩ _ eo
   have hit := e9.Ma h
   cases f with
   | zero => cases h
   | succ f =>
     have hr : CO d bk.length = [] := by
      unfold CO
      rw [List.filter_eq_nil_iff]
      intro i hi
      have := (eo i).2 (JS.1 hi)
      simp [this]
     simp only [e9.all, hr] at h
     split at h
     case isFalse => cases h
     cases ae : R.fin call s with
     | none => rw [ae] at h; cases h
     | some ar =>
       rw [ae] at h
       simp only at h
       split at h
       · rename_i ix
         cases h
         refine ⟨ar, rfl, ?_, hs _ (by simp)⟩
         have := k3 ix
         omega
       · cases h
end
theorem SH (bx : eR C fid) {mW : Nat} {fn : Func} {c : Code} {oA : List lN} {fresh : Bool} (ae : C.P.funcs[mW]? = some fn) (hb : fn.body = some c) (sy : dH C.res fn.results.toList = some oA)
  {args : List V} {v : V} {low' : Nat} {xs : List Value} (hlen : args.length <= fn.ntmps)
  (Mb : c1 C fid (Ctx.varsOf fn) fn.ntmps c { aE := [], aw := iP 0 args, H, low := H.length } (fun x st => (x = .normal \/ x = .ret) /\ ∃ vs, hZ st.aw st.H oA = some vs /\ finish fresh H (iY vs) st.H st.low = some (v, H', low')))
  (aa : bb C fid G H w) (af : a6 fid G w args xs) : Calls C.P mW ⟨xs⟩ w (fun e w' => ∃ x, e = .returned x /\ kM C fid G H w v H' low' x w') := by
 have h4 := af.length
 have iA : dx C fid (Ctx.varsOf fn) fn.ntmps G { aE := [], aw := iP 0 args, H, low := H.length } { tmps := (⟨xs⟩ : Array Value) ++ Array.replicate (fn.ntmps - (⟨xs⟩ : Array Value).size) undef, defers := [] } w := by
  refine ⟨aa, fun t => ?_, ?_, aK _⟩
  · unfold dD
    split
    · rw [LJ]
      simp only [cx, if_true, Nat.sub_zero]
      cases ao : args[t]? with
      | none => exact .undef _
      | some u =>
        obtain ⟨x, hx, xJ⟩ := af.get ao
        have aH : t < xs.length := by
         rcases gg t xs.length with h | h
         · exact h
         · simp [mF h] at hx
        have : ((⟨xs⟩ : Array Value) ++ Array.replicate (fn.ntmps - (⟨xs⟩ : Array Value).size) undef).getD t undef = x := by
         rw [ve, azy (by simpa using aH)]
         simp [hx]
        rw [this]; exact xJ
    · exact .undef _
  · simp only [Bx, Array.size_replicate]
    show xs.length + (fn.ntmps - xs.length) = fn.ntmps
    rw [h4]; omega
 refine (callsIn_wide (n := 0)).1 (callsIn_of_wp_marks ae hb trivial ?_)
 refine Mb G _ w none w.heap.size _ iA trivial (.nil _ _ _) (aK _) fun x st G' bf w' ho eT F => ?_
 obtain ⟨LL, vs, hr, q9⟩ := ho
 obtain ⟨rs, LK, dE, hm, Cw⟩ := F.marks
 have mU : LeavesInM Fence.wide 0 C.P fn bf.tmps (fun e w' => ∃ x, e = .returned x /\ kM C fid G H w v H' low' x w') bf.defers .returning w' := by
  rw [LK]
  refine Gg (m0 := fun m => m <= st.low) rs w' dE hm Cw F.rel.rel F.ext (fun _ _ _ => trivial) fun bB cn dZ lx => ?_
  obtain ⟨x, hx, xJ⟩ := So sy cn (fun t ht => by
   have := F.rel.env t
   rw [Lv (Sq ht)] at this
   exact lx this) hr
  exact ⟨x, hx, x, rfl, Sk aa cn dZ eT.1 xJ q9⟩
 rcases LL with rfl | rfl
 · exact mU
 · exact mU
end Go.Abs
namespace Go.Abs
open Go
variable {C : Ctx} {fid : Nat -> Nat} {w w' : World} {G G' : bT} {H H' : Heap}
section
variable {vars : List Nat} {N : Nat} {call : c3} {n : Nat}
theorem c1.pre (cC : C.P.follows .mixedOrders = true) (bx : eR C fid) (bj : gx C fid call) {c d : Code} {ac : cm} (hc : C.code vars N c = some ac) {st aU : au} (he : Abs.exec call n ac st = some (.normal, aU))
  {Out : X -> au -> Prop} (h : c1 C fid vars N d aU Out) : c1 C fid vars N (.seq c d) st Out :=
 c1.seq (c1.exec cC bx bj hc he) (fun s hs => by rw [hs.2]; exact h) fun x s hx hs => absurd hs.1 hx
def Mc : List Code -> Code -> Code
 | [], d => d
 | c :: r, d => .seq c (Mc r d)
def CP (call : c3) (n : Nat) : List cm -> au -> Option au
 | [], st => some st
 | c :: r, st => match Abs.exec call n c st with
   | some (.normal, s) => CP call n r s
   | _ => none
theorem c1.SI (cC : C.P.follows .mixedOrders = true) (bx : eR C fid) (bj : gx C fid call) {d : Code} {Out : X -> au -> Prop} : ∀ {cs : List Code} {Gr : List cm}, dH (C.code vars N) cs = some Gr -> ∀ {st aU : au}, CP call n Gr st = some aU ->
  c1 C fid vars N d aU Out -> c1 C fid vars N (Mc cs d) st Out
 | [], Gr, hm, st, aU, he, h => by
   simp only [dH, aA] at hm
   subst hm
   simp only [CP, aA] at he
   subst he
   exact h
 | c :: cs, Gr, hm, st, aU, he, h => by
   simp only [dH] at hm
   split at hm
   · rename_i a ao
     split at hm
     · rename_i aY has
       cases hm
       simp only [CP] at he
       split at he
       · rename_i s hs
         exact c1.pre cC bx bj ao hs (c1.SI cC bx bj has he h)
       · cases he
     · cases hm
   · cases hm
end
structure lY where
 pre : List cm
 R : e9
 post : cm
 oA : List lN
def adm : X -> Bool
 | .normal | .ret => true
 | _ => false
def lY.ends (B : lY) (v : V) : X × au -> Bool := fun (x, s) => adm x && match hZ s.aw s.H B.oA with
 | some vs => match finish false [] (iY vs) s.H s.low with
   | some (u, H', l) => dN u v && H'.isEmpty && Nat.beq l 0
   | none => false
 | none => false
def lY.ok (B : lY) (call : c3) (n : Nat) (args : List V) (v : V) : Bool :=
 match CP call n B.pre { aE := [], aw := iP 0 args, H := [], low := 0 } with
 | some iC => match c9 call B.R.t0 { iC with aE := [] } [] with
  | some (st, _) => match B.R.src.ag st.aE st.aw with
   | .map l => match st.H[l]? with
     | some (.map bk) => match B.R.all call n bk st.H.length n [] (hD B.R.it st) with
       | some outs => outs.all fun ar => match exec call n B.post { ar with low := min st.low st.H.length } with
         | some p => B.ends v p
         | none => false
       | none => false
     | _ => false
   | _ => false
  | none => false
 | none => false
structure Gs (C : Ctx) (fn : Func) (B : lY) : Prop where
 ok : ∃ (cs : List Code) (Gt Gu : Code), fn.body = some (Mc cs (.seq Gt Gu)) /\ dH (C.code (Ctx.varsOf fn) fn.ntmps) cs = some B.pre /\ xU C (Ctx.varsOf fn) fn.ntmps Gt = some B.R /\ C.code (Ctx.varsOf fn) fn.ntmps Gu = some B.post /\
  dH C.res fn.results.toList = some B.oA /\ (fn.name == "runtime.NumGoroutine") = false
theorem lY.calls (cC : C.P.follows .mixedOrders = true) (bx : eR C fid) {call : c3} (bj : gx C fid call) {n mW : Nat} {fn : Func} {B : lY} (ae : C.P.funcs[mW]? = some fn) (dC : Gs C fn B) {args : List V} {v : V} (hlen : args.length <= fn.ntmps)
  (bd : B.ok call n args v = true) {xs : List Value} (aa : bb C fid G [] w) (af : a6 fid G w args xs) : Calls C.P mW ⟨xs⟩ w (fun e w' => ∃ x, e = .returned x /\ kM C fid G [] w v [] 0 x w') := by
 obtain ⟨cs, Gt, Gu, hb, Gv, adn, ado, sy, -⟩ := dC.ok
 refine SH bx ae hb sy (fresh := false) hlen ?_ aa af
 unfold lY.ok at bd
 split at bd
 case h_2 => cases bd
 rename_i iC cp
 split at bd
 case h_2 => cases bd
 rename_i st wr hex
 split at bd
 case h_2 => cases bd
 rename_i l hl
 split at bd
 case h_2 => cases bd
 rename_i bk adp
 split at bd
 case h_2 => cases bd
 rename_i outs adq
 refine c1.SI cC bx bj Gv cp ?_
 refine c1.seq (c1.adl cC bx bj (SF adn) hex hl adp adq) (fun s hs => ?_) fun x s hx hs => absurd hs.1 hx
 obtain ⟨-, ar, Gw, rfl⟩ := hs
 have h1 := fo.1 bd ar Gw
 split at h1
 case h_2 => cases h1
 rename_i p hp
 obtain ⟨x, s2⟩ := p
 refine (c1.exec cC bx bj ado hp).mono fun y eV hy => ?_
 obtain ⟨rfl, rfl⟩ := hy
 unfold lY.ends at h1
 simp only [cd] at h1
 obtain ⟨h2, av⟩ := h1
 refine ⟨?_, ?_⟩
 · cases y with
   | normal => exact .inl rfl
   | ret => exact .inr rfl
   | exit i => cases h2
 · split at av
   case h_2 => cases av
   rename_i vs cO
   split at av
   case h_2 => cases av
   rename_i u H' k h9
   simp only [cd] at av
   obtain ⟨⟨bc, h5⟩, gu⟩ := av
   have ah := tV _ _ bc
   have e2 : H' = [] := by cases H' with
    | nil => rfl
    | cons => cases h5
   have b5 : k = 0 := fl gu
   subst ah; subst e2; subst b5
   exact ⟨vs, cO, h9⟩
def lY.iS (B : lY) (call : c3) (n : Nat) (N : Nat) : List (List V × V) -> Prop
 | [] => True
 | (aY, v) :: r => (bO v = true /\ Nat.ble aY.length N = true /\ B.ok call n aY v = true) /\ B.iS call n N r
theorem lY.Gj (cC : C.P.follows .mixedOrders = true) (bx : eR C fid) {call : c3} (bj : gx C fid call) {n mW : Nat} {fn : Func} {B : lY} (ae : C.P.funcs[mW]? = some fn) (dC : Gs C fn B) : ∀ {l : List (List V × V)}, B.iS call n fn.ntmps l -> nL C fid mW (iR l) := by
 intro l hl G H w args v xs aa eJ lX
 obtain ⟨cs, Gt, Gu, hb, -, -, -, -, Cz⟩ := dC.ok
 rw [Cx ae hb Cz]
 induction l with
 | nil => cases lX
 | cons p r ih =>
   obtain ⟨aY, u⟩ := p
   simp only [iR] at lX
   cases e : mc args aY with
   | true =>
     rw [e] at lX
     have h' : some u = some v := lX
     cases h'
     have e' := sw _ _ e
     subst e'
     obtain ⟨⟨h1, h2, av⟩, -⟩ := hl
     have hc := lY.calls cC bx bj ae dC (k3 h2) av aa.apart (c6.od eJ)
     exact BF hc fun e w' => fun ⟨x, ah, e2⟩ => ⟨x, ah, e2.beside aa h1⟩
   | false => rw [e] at lX; exact ih hl.2 lX
end Go.Abs
namespace Go.Abs.U
open Go Go.Abs Go.Proofs
noncomputable section
def C (g : Nat -> Option Obj) : Ctx := { P := Tryz.prog, Fq := some, raw := fun i => i == 25 || i == 69 || i == 176 || i == 180 || i == 228 || i == 265 || i == 298 || i == 351 || i == 353 || i == 371 || i == 405 || i == 409 || i == 410 || i == 411 || i == 412 || i == 413 || i == 414 || i == 415 || i == 416 || i == 452 || i == 453 || i == 454 || i == 455 || i == 456 || i == 457 || i == 459 || i == 460 || i == 464 || i == 465 || i == 466 || i == 480 || i == 481 || i == 482 || i == 489 || i == 496, e6 := g, mG := fun p => !(p == "names.go:37" || p == "parser.go:280"), zy := [461] }
def adr (i : Nat) : Bool := i == 25 || i == 69 || i == 176 || i == 180 || i == 298 || i == 371
def SJ (i : Nat) : Option (List V -> Option V) := match i with
 | 100 => some Kb
 | 178 => some Kc
 | 209 => some J9
 | 309 => some Ka
 | 326 => some Kd
 | 382 => some Fz
 | 385 => some FA
 | _ => none
def fW (g : Nat -> Option Obj) : Nat -> Option ca := fun i => match SJ i with
 | some s => some (.ext s)
 | none => match Tryz.prog.funcs[i]? with
   | some f => match (C g).func f (adr i) with
     | some a => some (.code a)
     | none => none
   | none => none
end
end Go.Abs.U
namespace Go.Abs.U
open Go Go.Abs Go.Proofs
set_option maxRecDepth 100000
theorem azQ (caps : Array Value) : FE Tryz.prog { target := .fn (.func 461) caps, args := #[] } := by
 refine ⟨_, caps, 461, caps, rfl, fun w => ⟨by simp [invoke, go_sem], ?_⟩⟩
 refine callsDIn_of_wpSIn Tryz.func461 rfl trivial fun arc cs hu => ?_
 have hn : Tryz.f461.ntmps = 18 := by kernel_rfl
 rw [hn]
 generalize hT : caps ++ Array.replicate (18 - caps.size) undef = T
 have hs : 18 <= T.size := by rw [<- hT, Bx, Array.size_replicate]; omega
 clear hT
 apply wpSIn_seq
 apply wpSIn_region
 simp [wpOpsSIn, go_sem, recoverD, hu, Exit.thenS]
 apply wpSIn_seq
 apply wpSIn_region
 have ard : ∀ (A : Array Value) (i : Nat), A.getD i undef = (A[i]?).getD undef := fun A i => ve ..
 have h1 : 1 < T.size := by omega
 have bc : 4 < T.size := by omega
 have h5 : 5 < T.size := by omega
 have gu : 6 < T.size := by omega
 simp [wpOpsSIn, go_sem, Exit.thenS, Act.eval, Act.put, Array.getElem?_setIfInBounds, h1, bc, h5, gu]
 refine wpSIn_cond (t := false) (by simp [Act.eval, Array.getElem?_setIfInBounds, h1, bc, h5, gu]) ?_
 simp only [gX, if_false]
 refine wpSIn_of_wpIn rfl (wpIn_skip ?_)
 have hr : Tryz.f461.results = #[] := by kernel_rfl
 have arf : Tryz.f461.resultTypes = #[] := by kernel_rfl
 simp_all [bodyPostS, results]
 rw [<- hu]
theorem sD {g : Nat -> Option Obj} : eR (C g) id := ⟨fun f i h => by cases h; rfl, fun i hi caps => by
 have sq : i ∈ [461] := hi
 simp only [dS, w0, or_false] at sq
 subst sq
 exact azQ caps⟩
theorem mixed {g : Nat -> Option Obj} : (C g).P.follows .mixedOrders = true := by kernel_rfl
end Go.Abs.U
namespace Go.Proofs
open Go.Shelf
def Tryz.SK : Go.Shelf.Ren := ⟨fun | 156 => 309 | 165 => 379 | 166 => 380 | 169 => 381 | 240 => 438 | 241 => 439 | 276 => 470 | 277 => 471 | n => n, fun | 31 => 24 | 9 => 9 | 3 => 3 | 4 => 4 | 0 => 0 | 20 => 20 | 72 => 428 | 76 => 290 | 70 => 426 | 37 => 266 | 75 => 289 | 127 => 475 | 164 => 502 | 5 => 5 | 80 => 226 | n => n, fun | n => n⟩
theorem Tryz.SL : Go.Proofs.Lays.n156 Tryz.prog Tryz.SK := by constructor <;> intros <;> kernel_rfl
theorem Tryz.SM : Builder.Extra Tryz.prog Tryz.SK := {
 sizeBuilder := by kernel_rfl
 liesBuilder := by kernel_rfl
 t5 := Tryz.underlying5
 a5 := Tryz.isAgg5
 z5 := Tryz.sizeOf5
 v5 := Tryz.zeroValue5
 infoByte := by kernel_rfl
 cellsByte := by kernel_rfl
 sizeByte := by kernel_rfl
 neB5 := by decide }
open Go.RowKit in
theorem Tryz.strings_Join_none (a : Option Addr) (c : Nat) (sep : ByteArray) (w : World) :
 Calls Tryz.prog 309 #[.slice a 0 c, .string sep] w fun e w' => e = .returned (.string ⟨#[]⟩) /\ w' = w := Any.strings_Join_none Tryz.SL Tryz.SM a c sep w
open Go.RowKit in
theorem Tryz.strings_Join (Gx o c : Nat) (xs : List ByteArray) (sep : ByteArray) (w : World) (xf : ∀ (j : Nat) x, xs[j]? = some x -> w.cell? ⟨Gx, o + j, none⟩ = some (.string x)) (adt : Gx < w.heap.size) (gT : xs.length <= 140737488355328) (hz : xs.length <= c) (hlen : (Lib.join (xs.map (·.data.toList)) sep.data.toList).length <= 140737488355328) :
 Calls Tryz.prog 309 #[.slice (some ⟨Gx, o, none⟩) xs.length c, .string sep] w fun e w' => e = .returned (.string ⟨(Lib.join (xs.map (·.data.toList)) sep.data.toList).toArray⟩) /\ Below w.heap.size w w' := Any.strings_Join Tryz.SL Tryz.SM Gx o c xs sep w xf adt gT hz hlen
def Tryz.adu : Go.Shelf.Ren := ⟨fun | 161 => 326 | 231 => 392 | 227 => 393 | 233 => 394 | 235 => 395 | 228 => 447 | 197 => 448 | 151 => 449 | 260 => 476 | 152 => 477 | 137 => 385 | 119 => 492 | 224 => 493 | 225 => 494 | 217 => 443 | 266 => 473 | n => n, fun | 9 => 9 | 4 => 4 | 3 => 3 | 5 => 5 | 117 => 442 | 116 => 441 | 0 => 0 | 124 => 445 | 105 => 485 | 21 => 21 | 119 => 476 | 46 => 210 | 139 => 539 | 138 => 538 | n => n, fun | 3 => 8 | 4 => 9 | n => n⟩
theorem Tryz.adv : Go.Proofs.Lays.n161 Tryz.prog Tryz.adu := by constructor <;> intros <;> kernel_rfl
open Go.RowKit in
theorem Tryz.strings_TrimLeft_one (s : ByteArray) (c : UInt8) (hc : c.toNat < 128) (w : World) :
 Calls Tryz.prog 326 #[.string s, .string ⟨#[c]⟩] w fun e w' => e = .returned (.string ⟨(Lib.trimLeftB s.data.toList c).toArray⟩) /\ w' = w := Any.strings_TrimLeft_one Tryz.adv s c hc w
def Tryz.adw : Go.Shelf.Ren := ⟨fun | 125 => 178 | 128 => 296 | 129 => 297 | n => n, fun | 46 => 210 | 3 => 3 | 51 => 355 | 53 => 357 | 4 => 4 | 5 => 5 | 9 => 9 | n => n, fun | n => n⟩
theorem Tryz.adx : Go.Proofs.Lays.n125 Tryz.prog Tryz.adw := by constructor <;> intros <;> kernel_rfl
theorem Tryz.bits_Len (x : Int) (w : World) (h0 : 0 <= x) (h1 : x <= 18446744073709551615) :
 Calls Tryz.prog 178 #[.int .u64 x] w fun e w' => e = .returned (.int .i64 (Lib.bitLen x.toNat)) /\ w' = w := Any.bits_Len Tryz.adx x w h0 h1
def Tryz.ady : Go.Shelf.Ren := ⟨fun | 137 => 385 | 217 => 443 | 266 => 473 | n => n, fun | 9 => 9 | 5 => 5 | 3 => 3 | n => n, fun | n => n⟩
theorem Tryz.adz : Go.Proofs.Lays.n137 Tryz.prog Tryz.ady := by constructor <;> intros <;> kernel_rfl
open Go.RowKit in
theorem Tryz.strings_IndexByte (s : ByteArray) (c : Int) (w : World) :
 Calls Tryz.prog 385 #[.string s, .int .u8 c] w fun e w' => e = .returned (.int .i64 (Lib.indexByte s.data.toList c.toNat.toUInt8)) /\ w' = w := Any.strings_IndexByte Tryz.adz s c w
def Tryz.adA : Go.Shelf.Ren := ⟨fun | 172 => 209 | 244 => 323 | 245 => 324 | 247 => 386 | 279 => 387 | 280 => 388 | 281 => 389 | 282 => 390 | 287 => 444 | 316 => 445 | 171 => 100 | 205 => 446 | 321 => 474 | 322 => 475 | 243 => 199 | 246 => 307 | 283 => 375 | 284 => 376 | 285 => 377 | 286 => 378 | 129 => 297 | 317 => 434 | 318 => 435 | 319 => 436 | 320 => 437 | 337 => 468 | 338 => 469 | n => n, fun | 9 => 9 | 3 => 3 | 75 => 289 | 76 => 290 | 4 => 4 | 5 => 5 | 167 => 432 | 37 => 266 | 0 => 0 | 85 => 433 | 2 => 2 | 168 => 435 | 53 => 357 | 175 => 479 | 46 => 210 | 210 => 483 | 127 => 475 | 145 => 513 | 143 => 511 | 21 => 21 | 171 => 422 | 173 => 424 | 212 => 473 | 51 => 355 | 20 => 20 | 213 => 474 | 232 => 524 | 233 => 525 | 80 => 226 | n => n, fun | 15 => 2 | 16 => 3 | 17 => 0 | 18 => 5 | 19 => 6 | n => n⟩
theorem Tryz.adB : Go.Proofs.Lays.n172 Tryz.prog Tryz.adA := by constructor <;> intros <;> kernel_rfl
open Go.RowKit in
theorem Tryz.strconv_Atoi (s : ByteArray) (n : Int) (hl : s.size <= 18) (h : Lib.atoi s.data.toList = some n) (w : World) :
 Calls Tryz.prog 209 #[.string s] w fun e w' => e = .returned (.tuple #[.int .i64 n, .nilIface]) /\ ∃ t, w' = Lib.bytesWorld w 5 t := Any.strconv_Atoi Tryz.adB s n hl h w
def Tryz.azR : Go.Shelf.Ren := ⟨fun | 171 => 100 | 243 => 199 | 246 => 307 | 283 => 375 | 284 => 376 | 285 => 377 | 286 => 378 | 129 => 297 | 317 => 434 | 318 => 435 | 319 => 436 | 320 => 437 | 337 => 468 | 338 => 469 | n => n, fun | 3 => 3 | 9 => 9 | 2 => 2 | 4 => 4 | 171 => 422 | 0 => 0 | 53 => 357 | 37 => 266 | 5 => 5 | 173 => 424 | 212 => 473 | 51 => 355 | 20 => 20 | 213 => 474 | 46 => 210 | 232 => 524 | 233 => 525 | n => n, fun | 17 => 0 | 18 => 5 | 19 => 6 | n => n⟩
theorem Tryz.azS : Go.Proofs.LaysM.n171 Tryz.prog Tryz.azR := by constructor <;> intros <;> first | kernel_rfl | (constructor <;> intros <;> kernel_rfl)
open Go.RowKit Go.Sort Go.Lib in
theorem Tryz.strconv_Itoa (n : Int) (h0 : -9223372036854775808 <= n) (h1 : n <= 9223372036854775807) (w : World) (uf : Lib.TabIs Tryz.prog w "internal/strconv.uint64pow10" .u64 Lib.pow10Tab) :
 Calls Tryz.prog 100 #[.int .i64 n] w fun e w' => e = .returned (.string ⟨(Lib.itoa n).toArray⟩) /\ ∃ k os, w' = grow (w.drewN k) os := Any.strconv_Itoa Tryz.azS n h0 h1 w uf
def Tryz.adC : Go.Shelf.Ren := ⟨fun | 171 => 100 | 243 => 199 | 246 => 307 | 283 => 375 | 284 => 376 | 285 => 377 | 286 => 378 | 129 => 297 | 317 => 434 | 318 => 435 | 319 => 436 | 320 => 437 | 337 => 468 | 338 => 469 | n => n, fun | 3 => 3 | 9 => 9 | 2 => 2 | 4 => 4 | 171 => 422 | 0 => 0 | 53 => 357 | 37 => 266 | 5 => 5 | 173 => 424 | 212 => 473 | 51 => 355 | 20 => 20 | 213 => 474 | 46 => 210 | 232 => 524 | 233 => 525 | n => n, fun | 17 => 0 | 18 => 5 | 19 => 6 | n => n⟩
theorem Tryz.adD : Go.Proofs.Lays.n171 Tryz.prog Tryz.adC := by constructor <;> intros <;> kernel_rfl
open Go.RowKit Go.Sort Go.Lib in
theorem Tryz.strconv_Itoa_small (i : Nat) (hi : i < 100) (w : World) :
 Calls Tryz.prog 100 #[.int .i64 i] w fun e w' => e = .returned (.string ⟨(Lib.decDigits i).toArray⟩) /\ w' = w := Any.strconv_Itoa_small Tryz.adD i hi w
def Tryz.adE : Go.Shelf.Ren := ⟨fun | 157 => 382 | 229 => 440 | 199 => 441 | 261 => 472 | 311 => 490 | 312 => 491 | n => n, fun | 9 => 9 | 31 => 24 | 3 => 3 | 5 => 5 | 4 => 4 | 119 => 476 | 0 => 0 | 40 => 478 | 152 => 505 | 21 => 21 | 154 => 507 | 51 => 355 | 141 => 509 | 196 => 529 | 193 => 526 | 198 => 532 | 49 => 530 | 194 => 527 | 201 => 535 | 226 => 542 | 46 => 210 | 227 => 543 | n => n, fun | 0 => 1 | 6 => 4 | n => n⟩
theorem Tryz.adF : Go.Proofs.Lays.n157 Tryz.prog Tryz.adE := by constructor <;> intros <;> kernel_rfl
open Go.RowKit Go.Lib in
theorem Tryz.strings_Fields (s : ByteArray) (w : World) (hs : s.size < 4294967281) (adG : ∀ (j : Nat) b, s.data.toList[j]? = some b -> b.toNat < 128) (uf : Lib.TabIs Tryz.prog w "strings.asciiSpace" .u8 Lib.asciiSpaceTab) :
 Calls Tryz.prog 382 #[.string s] w fun e w' =>
  e = .returned (.slice (some ⟨w.heap.size, 0, none⟩) (Lib.fields s.data.toList).length (Lib.fields s.data.toList).length) /\ w' = w.alloc (.cells ((Lib.fields s.data.toList).map fun l => Value.string ⟨l.toArray⟩).toArray 9) := Any.strings_Fields Tryz.adF (by kernel_rfl) (by kernel_rfl) s w hs adG uf
end Go.Proofs
namespace Go.Abs.U
open Go Go.Abs Go.Proofs
variable {fid : Nat -> Nat} {g : Nat -> Option Obj}
set_option maxRecDepth 100000 in
theorem vU {i : Nat} {fn : Func} (ae : Tryz.prog.funcs[i]? = some fn) (hb : fn.body.isSome = true) (hn : (fn.name == "runtime.NumGoroutine") = false) {R : Value -> World -> Prop} {xs : List Value} {w : World}
  (h : Calls Tryz.prog i ⟨xs⟩ w fun e w' => ∃ x, e = .returned x /\ R x w') : q5 (C g).P R ((callFunc i ⟨xs⟩).run (C g).P w) := by
 obtain ⟨c, hc⟩ := Option.isSome_iff_exists.1 hb
 rw [Cx (C := C g) ae hc hn]; exact h
theorem vV {w : World} {I : Nat -> Prop} {s : List UInt8} {x : Value} (h : fE w I (.str s) x) : x = .string ⟨⟨s⟩⟩ := by cases h; rfl
theorem ag3 : Tryz.f309.body.isSome = true := by kernel_rfl
theorem ag4 : (Tryz.f309.name == "runtime.NumGoroutine") = false := by kernel_rfl
theorem azT : Tryz.f385.body.isSome = true := by kernel_rfl
theorem azU : (Tryz.f385.name == "runtime.NumGoroutine") = false := by kernel_rfl
theorem azV : Tryz.f209.body.isSome = true := by kernel_rfl
theorem azW : (Tryz.f209.name == "runtime.NumGoroutine") = false := by kernel_rfl
theorem azX : Tryz.f382.body.isSome = true := by kernel_rfl
theorem azY : (Tryz.f382.name == "runtime.NumGoroutine") = false := by kernel_rfl
theorem adN {ds : List V} {l : List (List UInt8)} (h : strs ds = some l) : ds = l.map .str := by
 induction ds generalizing l with
 | nil => cases h; rfl
 | cons v r ih =>
   cases v <;> first | (cases h; done) | skip
   simp only [strs] at h
   obtain ⟨m, hm, rfl⟩ := cD.1 h
   rw [ih hm]; rfl
theorem SQ {w : World} {I : Nat -> Prop} : ∀ {l : List (List UInt8)} {vals : List Value}, c6 w I ((l.map V.str).flatMap aG) vals -> vals = l.map fun s => Value.string ⟨⟨s⟩⟩
 | [], vals, h => by cases h; rfl
 | s :: r, vals, h => by
   rw [eD, kF] at h
   cases h with
   | cons _ x _ xs h1 h2 =>
     obtain rfl := vV h1
     rw [SQ h2]; rfl
set_option maxRecDepth 100000 in
theorem adO : nL (C g) id 309 Ka := by
 intro G H w args v xs aa eJ hs
 unfold Ka at hs
 split at hs
 · rename_i sep
   cases hs
   cases eJ with
   | cons _ x _ xs h1 gn =>
     cases gn with
     | cons _ y _ cN h2 oh =>
       cases oh
       cases h1
       obtain rfl := vV h2
       refine vU Tryz.func309 ag3 ag4 ((Tryz.strings_Join_none none 0 _ w).mono ?_)
       rintro e w' ⟨rfl, rfl⟩
       exact ⟨_, rfl, G, aa, fun m _ => .refl _ _ _ _, .p _ _ (.str [])⟩
 · rename_i es ds sep
   split at hs
   · rename_i l hl
     split at hs
     · rename_i hc
       obtain ⟨rfl, bA, iZ, oj⟩ := hc
       cases hs
       obtain rfl := adN hl
       cases eJ with
       | cons _ x _ xs h1 gn =>
         cases gn with
         | cons _ y _ cN h2 oh =>
           cases oh
           obtain rfl := vV h2
           generalize kQ : l.map V.str = D at h1
           cases h1 with
           | tB _ a cap => exact absurd (List.map_eq_nil_iff.1 kQ) bA
           | list _ _ b o cap vals aZ j2 hu hr adP =>
             subst kQ
             obtain rfl := SQ hr
             have CQ : ((l.map fun s => (⟨⟨s⟩⟩ : ByteArray)).map (·.data.toList)) = l := by rw [qR]; exact List.map_id l
             have hj := Tryz.strings_Join b o cap (l.map fun s => ⟨⟨s⟩⟩) ⟨⟨sep⟩⟩ w (fun j y hy => by
              refine j2 j _ ?_
              simp only [kh] at hy ⊢
              cases aP : l[j]? with
              | none => rw [aP] at hy; cases hy
              | some z => rw [aP] at hy; cases hy; rfl) (aa.cX b aZ).1 (by simp; omega) (by simpa using adP) (by rw [CQ]; simp only [PF]; omega)
             rw [CQ] at hj
             simp only [n4] at hj ⊢
             refine vU Tryz.func309 ag3 ag4 (hj.mono ?_)
             rintro e w' ⟨rfl, hb⟩
             exact ⟨_, rfl, G, aa.restore hb.size hb.block, fun m _ => .restore hb.size hb.block hb.os hb.output m _, .p _ _ (.str (Lib.join l sep))⟩
     · cases hs
   · cases hs
 · cases hs
theorem ag5 : Tryz.f100.body.isSome = true := by kernel_rfl
theorem ag6 : (Tryz.f100.name == "runtime.NumGoroutine") = false := by kernel_rfl
set_option maxRecDepth 100000 in
theorem adS (uf : ∀ (G : bT) (H : Heap) (w : World), bb (C g) id G H w -> Lib.TabIs Tryz.prog w "internal/strconv.uint64pow10" .u64 Lib.pow10Tab) : nL (C g) id 100 Kb := by
 intro G H w args v xs aa eJ hs
 unfold Kb at hs
 split at hs
 · rename_i n
   split at hs
   · rename_i hn
     cases hs
     obtain ⟨k, rfl⟩ := Pz hn.1
     cases eJ with
     | cons _ x _ xs h1 gn =>
       cases gn
       cases h1
       have ai : k < 10 := by omega
       refine vU Tryz.func100 ag5 ag6 ((Tryz.strconv_Itoa_small k (by omega) w).mono ?_)
       rintro e w' ⟨rfl, rfl⟩
       rw [Lib.decDigits_one ai]
       exact ⟨_, rfl, G, aa, fun m _ => .refl _ _ _ _, .p _ _ (.str _)⟩
   · split at hs
     · rename_i hn
       cases hs
       cases eJ with
       | cons _ x _ xs h1 gn =>
         cases gn
         cases h1
         refine vU Tryz.func100 ag5 ag6 ((Tryz.strconv_Itoa n (by omega) (by omega) w (uf G H w aa)).mono ?_)
         rintro e w' ⟨rfl, q, os, rfl⟩
         have ah : Lib.itoa n = [45, UInt8.ofNat (48 + n.natAbs)] := by
          unfold Lib.itoa
          rw [if_pos hn.2, Lib.decDigits_one (by omega)]
         have dP : w.heap.size <= (Sort.grow (w.drewN q) os).heap.size := by simp [Sort.grow, World.drewN]
         have ai : ∀ b, b < w.heap.size -> (Sort.grow (w.drewN q) os).heap[b]? = w.heap[b]? := fun b hb => by
          simp only [Sort.grow, World.drewN]
          rw [azy hb]
         rw [ah]
         exact ⟨_, rfl, G, aa.restore dP ai, fun m _ => .restore dP ai rfl rfl m _, .p _ _ (.str _)⟩
     · cases hs
 · cases hs
set_option maxRecDepth 100000 in
theorem adT : nL (C g) id 385 FA := by
 intro G H w args v xs aa eJ hs
 unfold FA at hs
 split at hs
 · rename_i s c
   cases hs
   cases eJ with
   | cons _ x _ xs h1 gn =>
     cases gn with
     | cons _ y _ cN h2 oh =>
       cases oh
       cases h2
       obtain rfl := vV h1
       refine vU Tryz.func385 azT azU ((Tryz.strings_IndexByte _ c w).mono ?_)
       rintro e w' ⟨rfl, rfl⟩
       exact ⟨_, rfl, G, aa, fun m _ => .refl _ _ _ _, .p _ _ (.int .i64 _)⟩
 · cases hs
set_option maxRecDepth 100000 in
theorem adU : nL (C g) id 209 J9 := by
 intro G H w args v xs aa eJ hs
 unfold J9 at hs
 split at hs
 · rename_i s
   split at hs
   · rename_i hl
     obtain ⟨n, hn, rfl⟩ := cD.1 hs
     cases eJ with
     | cons _ x _ xs h1 gn =>
       cases gn
       obtain rfl := vV h1
       refine vU Tryz.func209 azV azW ((Tryz.strconv_Atoi ⟨⟨s⟩⟩ n hl hn w).mono ?_)
       rintro e w' ⟨rfl, t, rfl⟩
       have dP : w.heap.size <= (Lib.bytesWorld w 5 t).heap.size := by
        unfold Lib.bytesWorld World.freeze
        have h0 : w.drew.heap = w.heap := rfl
        split <;> simp [h0]
       have ai : ∀ b, b < w.heap.size -> (Lib.bytesWorld w 5 t).heap[b]? = w.heap[b]? := fun b hb => by
        have h1 : (w.drew.alloc (.cells (Lib.bytesCells w 5 t) 5)).heap[b]? = w.heap[b]? := alloc_old (w := w.drew) hb
        unfold Lib.bytesWorld World.freeze
        split
        · exact h1
        · show (Array.modify _ _ _)[b]? = _
          rw [Array.getElem?_modify, if_neg (fun e => by have e' : w.heap.size = b := e
                                                         omega)]
          exact h1
       have zD : (Lib.bytesWorld w 5 t).os = w.os /\ (Lib.bytesWorld w 5 t).tape = w.tape /\ (Lib.bytesWorld w 5 t).output = w.output := by
        unfold Lib.bytesWorld World.freeze
        split <;> exact ⟨rfl, rfl, rfl⟩
       refine ⟨_, rfl, G, aa.restore dP ai, fun m _ => .restore dP ai zD.1 zD.2.2 m _, .p _ _ (.ba _ _ (.cons _ _ _ _ (.int .i64 n) (.cons _ _ _ _ .iN .nil)))⟩
   · cases hs
 · cases hs
theorem SR {w : World} {I : Nat -> Prop} : ∀ (l : List (List UInt8)), c6 w I ((l.map V.str).flatMap aG) (l.map fun x => Value.string ⟨x.toArray⟩)
 | [] => .nil
 | a :: l => .cons _ _ _ _ (.str a) (SR l)
set_option maxRecDepth 100000 in
theorem adV (uf : ∀ (G : bT) (H : Heap) (w : World), bb (C g) id G H w -> Lib.TabIs Tryz.prog w "strings.asciiSpace" .u8 Lib.asciiSpaceTab) : nL (C g) id 382 Fz := by
 intro G H w args v xs aa eJ hs
 unfold Fz at hs
 split at hs
 · rename_i s
   split at hs
   · rename_i hc
     simp only [cd, decide_eq_true_eq] at hc
     cases hs
     cases eJ with
     | cons _ x _ xs h1 gn =>
       cases gn
       obtain rfl := vV h1
       refine vU Tryz.func382 azX azY ((Tryz.strings_Fields ⟨⟨s⟩⟩ w hc.2 (fun j b hb => ?_) (uf G H w aa)).mono ?_)
       · have := fo.1 hc.1 b (fm hb)
         have h' := UInt8.lt_iff_toNat_lt.1 (of_decide_eq_true this)
         simpa using h'
       rintro e w' ⟨rfl, rfl⟩
       refine ⟨_, rfl, ⟨G.β, fun b => G.I b \/ (b = w.heap.size /\ True)⟩, aa.sj _ True, fun m _ => .sj _ True m _, ?_⟩
       refine .p _ _ ?_
       cases ae : Lib.fields s with
       | nil => simp only [List.isEmpty_nil, if_true, qQ]; exact .emp _
       | cons a r =>
         simp only [List.isEmpty_cons, gX, if_false]
         rw [<- n4 (f := V.str)]
         refine .list 1 _ _ 0 _ _ (.inr ⟨rfl, trivial⟩) ?_ (fun d hd => ?_) (SR (a :: r)) (aK _)
         · intro j x hx
           rw [Qx (oe w _), eF, <- iK]
           exact hx
         · obtain ⟨y, -, rfl⟩ := ey.1 hd
           rfl
   · cases hs
 · cases hs
theorem azZ : Tryz.f178.body.isSome = true := by kernel_rfl
theorem az0 : (Tryz.f178.name == "runtime.NumGoroutine") = false := by kernel_rfl
set_option maxRecDepth 100000 in
theorem adY : nL (C g) id 178 Kc := by
 intro G H w args v xs aa eJ hs
 unfold Kc at hs
 split at hs
 · rename_i n
   have key : ∀ k : Nat, (k = 0 \/ k = 1 \/ k = 2) -> n = (k : Int) -> v = .int .i64 (k : Int) -> q5 (C g).P (kM (C g) id G H w v H H.length) ((callFunc 178 ⟨xs⟩).run (C g).P w) := fun k ai hn af => by
    subst hn; subst af
    cases eJ with
    | cons _ x _ xs h1 gn =>
      cases gn
      cases h1
      refine vU Tryz.func178 azZ az0 ((Tryz.bits_Len (k : Int) w (by omega) (by omega)).mono ?_)
      rintro e w' ⟨rfl, rfl⟩
      have : (Lib.bitLen (k : Int).toNat : Int) = (k : Int) := by rcases ai with rfl | rfl | rfl <;> rfl
      exact ⟨_, rfl, G, aa, fun m _ => .refl _ _ _ _, by rw [this]; exact .p _ _ (.int .i64 _)⟩
   split at hs
   · rename_i h; cases hs; exact key 0 (.inl rfl) h rfl
   · split at hs
     · rename_i h; cases hs; exact key 1 (.inr (.inl rfl)) h rfl
     · split at hs
       · rename_i h; cases hs; exact key 2 (.inr (.inr rfl)) h rfl
       · cases hs
 · cases hs
theorem az1 : Tryz.f326.body.isSome = true := by kernel_rfl
theorem az2 : (Tryz.f326.name == "runtime.NumGoroutine") = false := by kernel_rfl
set_option maxRecDepth 100000 in
theorem ad1 : nL (C g) id 326 Kd := by
 intro G H w args v xs aa eJ hs
 unfold Kd at hs
 split at hs
 · rename_i s c
   split at hs
   · rename_i hc
     cases hs
     cases eJ with
     | cons _ x _ xs h1 gn =>
       cases gn with
       | cons _ y _ cN h2 oh =>
         cases oh
         obtain rfl := vV h1
         obtain rfl := vV h2
         have tF : c.toNat < 128 := by simpa using UInt8.lt_iff_toNat_lt.1 hc
         refine vU Tryz.func326 az1 az2 ((Tryz.strings_TrimLeft_one ⟨⟨s⟩⟩ c tF w).mono ?_)
         rintro e w' ⟨rfl, rfl⟩
         exact ⟨_, rfl, G, aa, fun m _ => .refl _ _ _ _, .p _ _ (.str _)⟩
   · cases hs
 · cases hs
end Go.Abs.U
