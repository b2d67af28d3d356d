/- Texts of this claim, joined and written short by a program. -/
import Derived.Test.YtjgngmpmjbkbpaaGreatDoorP01
import Derived.Test.YtjgngmpmjbkbpaaGreatDoorP08
import Derived.RangeFuncRecord
import Derived.OrdersIn
import Derived.Test.YtjgngmpmjbkbpaaGreatDoorP00
set_option linter.unusedVariables false
set_option linter.unusedSimpArgs false
set_option linter.unusedSectionVars false
namespace Go.Abs
open Go
structure Fr (H : Heap) (low : Nat) (H' : Heap) (low' : Nat) : Prop where
 len : H.length <= H'.length
 low : low' <= low
 same : ∀ l, l < low' -> H'[l]? = H[l]?
variable {H H' H1 H2 : Heap} {low low' b0 dv : Nat} {ag : aj -> V} {v v' : V}
theorem Fr.refl (H : Heap) (low : Nat) : Fr H low H low := ⟨aK _, aK _, fun _ _ => rfl⟩
theorem Fr.trans (h : Fr H low H1 b0) (k : Fr H1 b0 H2 dv) : Fr H low H2 dv :=
 ⟨c4 h.len k.len, c4 k.low h.low, fun l hl => (k.same l hl).trans (h.same l (pY hl k.low))⟩
theorem Fr.push (hl : low <= H.length) (o : cE) : Fr H low (H ++ [o]) low :=
 ⟨by simp, aK _, fun l h => by rw [hq (by omega)]⟩
theorem Fr.set (l : Nat) (o : cE) : Fr H low (H.set l o) (min low l) :=
 ⟨by simp, jA _ _, fun x h => by rw [k4 (by omega)]⟩
theorem Fr.lift (h : Fr H b0 H' dv) (low : Nat) : Fr H low H' (min low dv) :=
 ⟨h.len, jA _ _, fun l hl => h.same l (by omega)⟩
theorem Fr.eq (h : Fr H low H' low') (hl : H.length <= low') (he : H'.length = H.length) : H' = H := by
 apply zn
 intro l
 rcases gg l low' with q | q
 · exact h.same l q
 · rw [mF (by omega), mF (by omega)]
theorem K2 (h : Fr H low H' low') (hm : fJ H H' low' = false) : H' = H := by
 simp only [fJ, JH, decide_eq_false_iff_not, bne_eq_false_iff_eq] at hm
 exact h.eq (by omega) hm.2
structure Rn (f : Heap -> Nat -> V -> Option (V × Heap × Nat)) : Prop where
 ok : ∀ {H H' : Heap} {low low' : Nat} {v v' : V}, f H low v = some (v', H', low') -> Fr H low H' low' /\ H'.length = H.length
theorem Ro {f : Heap -> Nat -> V -> Option (V × Heap × Nat)} (ae : Rn f) : ∀ {vs vs' : List V} {H H' : Heap} {low low' : Nat}, kj f H low vs = some (vs', H', low') -> Fr H low H' low' /\ H'.length = H.length
 | [], _, _, _, _, _, he => by
   simp only [kj, aA, bw] at he
   obtain ⟨-, rfl, rfl⟩ := he
   exact ⟨.refl _ _, rfl⟩
 | v :: r, _, _, _, _, _, he => by
   simp only [kj] at he
   split at he
   · rename_i h1
     split at he
     · rename_i h2
       simp only [aA, bw] at he
       obtain ⟨-, rfl, rfl⟩ := he
       have a := ae.ok h1
       have b := Ro ae h2
       exact ⟨a.1.trans b.1, b.2.trans a.2⟩
     · cases he
   · cases he
theorem Rp : ∀ (n : Nat), Rn (eg n)
 | 0 => by
   refine ⟨fun {H H' low low' v v'} he => ?_⟩
   simp only [eg] at he
   split at he
   · simp only [aA, bw] at he
     obtain ⟨-, rfl, rfl⟩ := he
     exact ⟨.refl _ _, rfl⟩
   · cases he
 | n + 1 => by
   refine ⟨fun {H H' low low' v v'} he => ?_⟩
   have ih := fun {vs vs' H H' low low'} => Ro (Rp n) (vs := vs) (vs' := vs') (H := H) (H' := H') (low := low) (low' := low')
   simp only [eg] at he
   split at he
   · simp only [aA, bw] at he
     obtain ⟨-, rfl, rfl⟩ := he
     exact ⟨.refl _ _, rfl⟩
   · split at he
     · split at he
       · rename_i h
         simp only [aA, bw] at he
         obtain ⟨-, rfl, rfl⟩ := he
         exact ih h
       · cases he
     · split at he
       · rename_i h
         simp only [aA, bw] at he
         obtain ⟨-, rfl, rfl⟩ := he
         exact ih h
       · cases he
     · split at he
       · split at he
         · split at he
           · simp only [aA, bw] at he
             obtain ⟨-, rfl, rfl⟩ := he
             split
             · exact ⟨.refl _ _, rfl⟩
             · exact ⟨.set _ _, by simp⟩
           · split at he
             · rename_i h
               split at he
               · split at he
                 · simp only [aA, bw] at he
                   obtain ⟨-, rfl, rfl⟩ := he
                   have := ih h
                   exact ⟨this.1.trans (.set _ _), by simp [this.2]⟩
                 · cases he
               · cases he
             · cases he
         · cases he
       · cases he
     · simp only [aA, bw] at he
       obtain ⟨-, rfl, rfl⟩ := he
       exact ⟨.refl _ _, rfl⟩
theorem Cc (he : gl H low v = some (v', H', low')) : Fr H low H' low' /\ H'.length = H.length := (Rp 16).ok he
theorem FX : ∀ {vs vs' : List V} {H H' : Heap} {low low' : Nat}, fe H low vs = some (vs', H', low') -> Fr H low H' low' /\ H'.length = H.length
 | [], _, _, _, _, _, he => by
   simp only [fe, aA, bw] at he
   obtain ⟨-, rfl, rfl⟩ := he
   exact ⟨.refl _ _, rfl⟩
 | v :: r, _, _, _, _, _, he => by
   simp only [fe] at he
   split at he
   · rename_i h1
     split at he
     · rename_i h2
       simp only [aA, bw] at he
       obtain ⟨-, rfl, rfl⟩ := he
       have a := Cc h1
       have b := FX h2
       exact ⟨a.1.trans b.1, b.2.trans a.2⟩
     · cases he
   · cases he
theorem abr {n : Nat} {a x : V} {l : Nat} (he : iO H n a x = some (H', l)) : ∃ o, H' = H.set l o := by
 unfold iO at he
 repeat' split at he
 all_goals first
  | (simp only [aA, bw] at he; obtain ⟨rfl, rfl⟩ := he; exact ⟨_, rfl⟩)
  | cases he
set_option maxHeartbeats 1000000 in
theorem abt {op : cH} (hl : low <= H.length) (he : step ag H low op = some (v, H', low')) : Fr H low H' low' := by
 cases op with
 | alloc z =>
   simp only [step, aA, bw] at he
   obtain ⟨-, rfl, rfl⟩ := he
   exact .push hl _
 | box x =>
   simp only [step] at he
   split at he
   · simp only [aA, bw] at he
     obtain ⟨-, rfl, rfl⟩ := he
     exact .push hl _
   · cases he
 | build z parts =>
   simp only [step] at he
   obtain ⟨cs, -, he⟩ := cD.1 he
   simp only [bw] at he
   obtain ⟨-, rfl, rfl⟩ := he
   exact .refl _ _
 | lit es z len parts mG =>
   simp only [step] at he
   split at he
   · rename_i h
     have ae := FX h
     have mJ : low' <= low' := aK _
     split at he
     · split at he
       · split at he
         · simp only [aA, bw] at he
           obtain ⟨-, rfl, rfl⟩ := he
           exact ae.1
         · cases he
       · split at he
         · simp only [aA, bw] at he
           obtain ⟨-, rfl, rfl⟩ := he
           exact ae.1
         · simp only [aA, bw] at he
           obtain ⟨-, rfl, rfl⟩ := he
           exact ae.1.trans (.push (by have := ae.1.low; have := ae.1.len; omega) _)
     · cases he
   · cases he
 | store n a x =>
   simp only [step] at he
   obtain ⟨⟨H1, l⟩, h, he⟩ := cD.1 he
   simp only [bw] at he
   obtain ⟨-, rfl, rfl⟩ := he
   obtain ⟨o, rfl⟩ := abr h
   exact .set _ _
 | zu t x =>
   simp only [step] at he
   split at he
   · rename_i h
     simp only [aA, bw] at he
     obtain ⟨-, rfl, rfl⟩ := he
     exact (Cc h).1
   · cases he
 | mkMap =>
   simp only [step, aA, bw] at he
   obtain ⟨-, rfl, rfl⟩ := he
   exact .push hl _
 | mkSlice es z bytes l c =>
   simp only [step] at he
   repeat' split at he
   all_goals first
    | (simp only [aA, bw] at he; obtain ⟨-, rfl, rfl⟩ := he; first | exact .refl _ _ | exact .push hl _)
    | cases he
 | o2 kind m k x =>
   simp only [step] at he
   split at he
   · rename_i h
     have ae := (Cc h).1
     repeat' split at he
     all_goals first
      | (simp only [aA, bw] at he; obtain ⟨-, rfl, rfl⟩ := he; exact ae.trans (.set _ _))
      | cases he
   · cases he
 | append es bytes a b =>
   simp only [step] at he
   split at he
   · split at he
     · rename_i h
       have ae := (FX h).1
       have hle : ∀ x, x <= low -> x <= H.length := fun x hx => c4 hx hl
       repeat' split at he
       all_goals first
        | (simp only [aA, bw] at he; obtain ⟨-, rfl, rfl⟩ := he
           first
            | exact ae
            | exact ae.trans (.push (by have := ae.low; have := ae.len; omega) _)
            | exact ae.trans (.set _ _))
        | cases he
     · cases he
   · cases he
 | w3 kind m k =>
   simp only [step] at he
   repeat' split at he
   all_goals first
    | (simp only [aA, bw] at he; obtain ⟨-, rfl, rfl⟩ := he; first | exact .refl _ _ | exact .set _ _)
    | cases he
 | BG a b =>
   simp only [step] at he
   repeat' split at he
   all_goals first
    | (simp only [aA, bw] at he; obtain ⟨-, rfl, rfl⟩ := he; first | exact .refl _ _ | exact .push hl _ | exact .set _ _)
    | cases he
 | copy es a b =>
   simp only [step] at he
   repeat' split at he
   all_goals first
    | (simp only [aA, bw] at he; obtain ⟨-, rfl, rfl⟩ := he; first | exact .refl _ _ | exact .set _ _)
    | cases he
 | call raw f args => simp [step] at he
 | fail => simp [step] at he
 | _ =>
   simp only [step] at he
   repeat' split at he
   all_goals first
    | (cases he; done)
    | (cases he; exact .refl _ _)
    | (simp only [aA, bw] at he; obtain ⟨-, rfl, rfl⟩ := he; exact .refl _ _)
    | (obtain ⟨_, -, he⟩ := cD.1 he; simp only [bw] at he; obtain ⟨-, rfl, rfl⟩ := he; exact .refl _ _)
theorem Rq {op : cH} (ht : gm op = false) (he : step ag H low op = some (v, H', low')) : H' = H /\ low' = low /\ ∀ H2 dv, step ag H2 dv op = some (v, H2, dv) := by
 cases op <;> first
  | (simp [gm] at ht; done)
  | skip
 all_goals
  simp only [step] at he ⊢
  repeat' split at he
  all_goals first
   | (cases he; done)
   | (simp only [aA, bw] at he; obtain ⟨rfl, rfl, rfl⟩ := he; simp_all; done)
   | (obtain ⟨x, hx, he⟩ := cD.1 he; simp only [bw] at he; obtain ⟨rfl, rfl, rfl⟩ := he; simp_all; done)
theorem Cd {ag gH : aj -> V} {d : Nat} {x : Option aj} (h : ∀ y ∈ x.toList, ag y = gH y) : eG ag d x = eG gH d x := by
 cases x with
 | none => rfl
 | some y => simp [eG, h y (by simp)]
theorem abu {ag gH : aj -> V} {op : cH} (h : ∀ x ∈ op.operands, ag x = gH x) : step ag H low op = step gH H low op := by
 cases op with
 | build z parts =>
   have : (parts.map fun p => (p.1, p.2.1, ag p.2.2)) = parts.map fun p => (p.1, p.2.1, gH p.2.2) := pX fun p hp => by rw [h _ (by simp only [cH.operands, ey]; exact ⟨p, hp, rfl⟩)]
   simp only [step, this]
 | lit es z len parts mG =>
   have : (parts.map fun p => ag p.2) = parts.map fun p => gH p.2 := pX fun p hp => h _ (by simp only [cH.operands, ey]; exact ⟨p, hp, rfl⟩)
   simp only [step, this]
 | r8 i a b =>
   have h1 : a.map ag = a.map gH := pX fun p hp => h _ (by simp [cH.operands, hp])
   have h2 : b.map ag = b.map gH := pX fun p hp => h _ (by simp [cH.operands, hp])
   simp only [step, h1, h2]
 | o1 x lo hi =>
   have h0 := h x (by simp [cH.operands])
   have h1 : ∀ d, eG ag d lo = eG gH d lo := fun d => Cd fun y hy => h y (by simp only [cH.operands, dS, jV]; exact .inr (.inl hy))
   have h2 : ∀ d, eG ag d hi = eG gH d hi := fun d => Cd fun y hy => h y (by simp only [cH.operands, dS, jV]; exact .inr (.inr hy))
   simp only [step, h0, h1, h2]
 | r9 es x lo hi mx =>
   have h0 := h x (by simp [cH.operands])
   have h1 : ∀ d, eG ag d lo = eG gH d lo := fun d => Cd fun y hy => h y (by simp only [cH.operands, dS, jV]; exact .inr (.inl (.inl hy)))
   have h2 : ∀ d, eG ag d hi = eG gH d hi := fun d => Cd fun y hy => h y (by simp only [cH.operands, dS, jV]; exact .inr (.inl (.inr hy)))
   have av : ∀ d, eG ag d mx = eG gH d mx := fun d => Cd fun y hy => h y (by simp only [cH.operands, dS, jV]; exact .inr (.inr hy))
   cases mx with
   | none => simp only [step, h0, h1, h2, av]
   | some m =>
     have bc := h m (by simp [cH.operands])
     simp only [step, h0, h1, h2, av, bc]
 | call raw f args => rfl
 | fail => rfl
 | alloc z => rfl
 | mkMap => rfl
 | _ => simp only [step]; simp only [cH.operands, dS, w0, or_false, forall_eq_or_imp, forall_eq] at h; simp only [h]
theorem xt {call : c3} {op : cH} (h : ∀ raw f args, op ≠ .call raw f args) : b9 call ag H low op = step ag H low op := by
 cases op <;> first | rfl | exact absurd rfl (h _ _ _)
theorem abv {call : c3} {ag gH : aj -> V} {op : cH} (h : ∀ x ∈ op.operands, ag x = gH x) : b9 call ag H low op = b9 call gH H low op := by
 cases op with
 | call raw f args =>
   have h0 := h f (by simp [cH.operands])
   have h1 : args.map ag = args.map gH := pX fun p hp => h _ (by simp [cH.operands, hp])
   cases raw <;> simp only [b9, h0, h1]
 | _ => rw [xt (by simp), xt (by simp)]; exact abu h
def lU (call : c3) : Prop := ∀ (f : V) (args : List V) (H : Heap) (v : V) (H' : Heap) (low' : Nat), call f args H = some (v, H', low') -> Fr H H.length H' low'
theorem xu {call : c3} {op : cH} (hc : lU call) (hl : low <= H.length) (he : b9 call ag H low op = some (v, H', low')) : Fr H low H' low' := by
 cases op with
 | call raw f args =>
   cases raw
   · simp only [b9] at he
     split at he
     · rename_i vs H1 b0 h1
       have ae := FX h1
       split at he
       · rename_i u H2 l h2
         have ai := hc _ _ _ _ _ _ h2
         split at he
         · cases he; exact .refl _ _
         · cases he; exact ae.1.trans (ai.lift _)
       · cases he
     · cases he
   · simp only [b9] at he
     split at he
     · rename_i u H2 l h2
       cases he
       exact (hc _ _ _ _ _ _ h2).lift _
     · cases he
 | _ => rw [xt (by simp)] at he; exact abt hl he
theorem jL (st : au) (d : Option (Nat × Bool)) (v : V) : (st.put d v).H = st.H /\ (st.put d v).low = st.low /\ (st.put d v).ro = st.ro := by
 rcases d with _ | ⟨t, b⟩
 · exact ⟨rfl, rfl, rfl⟩
 · cases b <;> exact ⟨rfl, rfl, rfl⟩
def fU (st aU : au) : Prop := Fr st.H st.low aU.H aU.low /\ aU.ro = st.ro
theorem fU.refl (st : au) : fU st st := ⟨.refl _ _, rfl⟩
theorem fU.trans {a b c : au} (h : fU a b) (k : fU b c) : fU a c := ⟨h.1.trans k.1, k.2.trans h.2⟩
theorem fU.bound {a b : au} (h : fU a b) (hl : a.low <= a.H.length) : b.low <= b.H.length := by
 have := h.1.low; have := h.1.len; omega
theorem nI {call : c3} (hc : lU call) : ∀ (ops : List b3) (st aU : au) (wr e1 : List Bool), st.low <= st.H.length -> c9 call ops st wr = some (aU, e1) -> fU st aU
 | [], st, aU, wr, e1, _, he => by
   simp only [c9, aA, bw] at he
   obtain ⟨rfl, -⟩ := he; exact .refl _
 | o :: r, st, aU, wr, e1, hl, he => by
   simp only [c9] at he
   split at he
   · split at he
     · rename_i v H' low' h
       have ae := xu hc (aK _) h
       have hp := jL { st with H := H', low := min st.low low' } o.dst v
       have h1 : fU st ({ st with H := H', low := min st.low low' }.put o.dst v) := ⟨by rw [hp.1, hp.2.1]; exact ae.lift _, hp.2.2⟩
       exact h1.trans (nI hc r _ _ _ _ (h1.bound hl) he)
     · cases he
   · have hp := jL st o.dst (.ba [])
     have h1 : fU st (st.put o.dst (.ba [])) := ⟨by rw [hp.1, hp.2.1]; exact .refl _ _, hp.2.2⟩
     exact h1.trans (nI hc r _ _ _ _ (h1.bound hl) he)
   · cases he
theorem Rr {f : au -> Option (X × au)} (ae : ∀ st x aU, st.low <= st.H.length -> f st = some (x, aU) -> fU st aU) : ∀ (n : Nat) (st : au) (x : X) (aU : au), st.low <= st.H.length -> iter f n st = some (x, aU) -> fU st aU
 | 0, _, _, _, _, he => by cases he
 | n + 1, st, x, aU, hl, he => by
   simp only [iter] at he
   split at he
   · rename_i bW h1
     have a := ae _ _ _ hl h1
     exact a.trans (Rr ae n _ _ _ (a.bound hl) he)
   · exact ae _ _ _ hl he
theorem lq {call : c3} (hc : lU call) (n : Nat) : ∀ (c : cm) (st : au) (x : X) (aU : au), st.low <= st.H.length -> exec call n c st = some (x, aU) -> fU st aU
 | .skip, st, x, aU, hl, he => by simp only [exec, aA, bw] at he; obtain ⟨-, rfl⟩ := he; exact .refl _
 | .region ops dK, st, x, aU, hl, he => by
   simp only [exec, au.fz] at he
   split at he
   · rename_i bW wr h1
     have a : fU { st with aE := [] } bW := nI hc _ _ _ _ _ hl h1
     have bf : fU st bW := a
     repeat' split at he
     all_goals first
      | (cases he; exact bf)
      | cases he
   · cases he
 | .w4 ops ok f, st, x, aU, hl, he => by
   simp only [exec, au.fz] at he
   split at he
   · rename_i bW wr h1
     have a : fU { st with aE := [] } bW := nI hc _ _ _ _ _ hl h1
     have bf : fU st bW := a
     split at he
     · cases he; exact bf
     · cases he
   · cases he
 | .seq a b, st, x, aU, hl, he => by
   simp only [exec, au.fz] at he
   split at he
   · rename_i bW h1
     have k := lq hc n a _ _ _ hl h1
     exact k.trans (lq hc n b _ _ _ (k.bound hl) he)
   · exact lq hc n a _ _ _ hl he
 | .cond c t e, st, x, aU, hl, he => by
   simp only [exec, au.fz] at he
   split at he
   · exact lq hc n t _ _ _ hl he
   · exact lq hc n e _ _ _ hl he
   · cases he
 | .block id c, st, x, aU, hl, he => by
   simp only [exec, au.fz] at he
   split at he
   · rename_i bW h1
     have k := lq hc n c _ _ _ hl h1
     split at he <;> (cases he; exact k)
   · exact lq hc n c _ _ _ hl he
 | .loop c, st, x, aU, hl, he => by
   simp only [exec, au.fz] at he
   exact Rr (fun st x aU h1 h2 => lq hc n c st x aU h1 h2) n _ _ _ hl he
 | .rangeFunc f ps a b, st, x, aU, hl, he => by
   simp only [exec, au.fz] at he
   split at he
   · cases he
   · split at he
     · rename_i u H1 b0 h1
       have k := hc _ _ _ _ _ _ h1
       split at he
       · split at he
         · cases he
         · cases he
           refine ⟨⟨?_, jA _ _, fun l h => ?_⟩, rfl⟩
           · have := k.len; simp at this ⊢; omega
           · simp only at h ⊢
             rw [k4 (by omega), k.same l (by omega), hq (by omega)]
       · cases he
     · cases he
 | .exit id, st, x, aU, hl, he => by simp only [exec, aA, bw] at he; obtain ⟨-, rfl⟩ := he; exact .refl _
 | .ret, st, x, aU, hl, he => by simp only [exec, aA, bw] at he; obtain ⟨-, rfl⟩ := he; exact .refl _
 | .fail, st, x, aU, hl, he => by simp [exec] at he
theorem FY {fresh : Bool} {H0 : Heap} (h : Fr H0 H0.length H low) (he : finish fresh H0 v H low = some (v', H', low')) : Fr H0 H0.length H' low' := by
 unfold finish at he
 split at he
 · split at he
   · split at he
     · cases he; exact .push (aK _) _
     · split at he
       · cases he; exact h
       · cases he
   · cases he
 · split at he
   · rename_i h1
     split at he
     · cases he; exact .refl _ _
     · cases he; exact h.trans (Cc h1).1
   · cases he
theorem abw {ex : cm -> au -> Option (X × au)} (hx : ∀ c st x aU, st.low <= st.H.length -> ex c st = some (x, aU) -> fU st aU) {f : iw} {args : List V}
  (he : jl ex f args H = some (v, H', low')) : Fr H H.length H' low' := by
 unfold jl at he
 split at he
 · split at he
   · rename_i st h1
     have k := (hx _ _ _ _ (aK _) h1).1
     split at he
     · exact FY k he
     · exact FY k he
     · cases he
   · rename_i st h1
     have k := (hx _ _ _ _ (aK _) h1).1
     split at he
     · exact FY k he
     · exact FY k he
     · cases he
   · cases he
 · cases he
theorem abx {ex : cm -> au -> Option (X × au)} (hx : ∀ c st x aU, st.low <= st.H.length -> ex c st = some (x, aU) -> fU st aU) {l : Nat} {args : List V}
  (he : n9 ex l args H = some (v, H', low')) : Fr H H.length H' low' := by
 unfold n9 at he
 split at he
 · split at he
   · split at he
     · rename_i st h1
       have k := (hx _ _ _ _ (aK _) h1).1
       split at he
       · split at he
         · rename_i x gi h2
           have dZ := (hx _ _ _ _ (by have q := k.low; have q' := k.len; simp only [zo] at q q' ⊢; omega) h2).1
           split at he
           · cases he
             exact (k.trans (.set _ _)).trans (dZ.trans (.set _ _))
           · cases he
         · cases he
       · cases he
     · cases he
   · cases he
 · cases he
theorem FZ (ad : Nat -> Option ca) : ∀ (n : Nat), lU (cu ad n)
 | 0 => fun f args H v H' low' he => by simp [cu] at he
 | n + 1 => fun f args H v H' low' he => by
   have hx := fun c st x aU (h1 : st.low <= st.H.length) h2 => lq (FZ ad n) n c st x aU h1 h2
   simp only [cu, p8] at he
   split at he
   · split at he
     · exact abw hx he
     · split at he
       · obtain ⟨u, -, he⟩ := cD.1 he
         cases he; exact .refl _ _
       · cases he
     · cases he
   · exact abx hx he
   · cases he
end Go.Abs
namespace Go.Abs
open Go
variable {C : Ctx} {fid : Nat -> Nat} {w w' : World} {G G' : bT} {H H' : Heap}
def ek (ro : Option Nat) : Fence := { fn := fun _ => True, depth := none, alive := false, round := ro }
def kM (C : Ctx) (fid : Nat -> Nat) (G : bT) (H : Heap) (w : World) (v : V) (H' : Heap) (low' : Nat) (x : Value) (w' : World) : Prop :=
 ∃ G', bb C fid G' H' w' /\ (∀ m, m <= low' -> Ext G w G' w' m H.length) /\ bg fid G' w' v x
def q5 (P : Program) (R : Value -> World -> Prop) : Result Next -> Prop
 | .ok (.value x) w' => R x w'
 | .ok .skip w' => R undef w'
 | .ok (.enter f args) w' => Calls P f args w' (fun e gY => ∃ x, e = .returned x /\ R x gY)
 | .ok (.row row args) w' => Rows P row args w' R
 | .ok (.round l f tmps aY db) w' => RoundIn Fence.wide 0 P l f tmps aY db w' (fun e gY => ∃ x, e = .returned x /\ R x gY)
 | _ => False
theorem q5.mono {P : Program} {R mS : Value -> World -> Prop} (h : ∀ x w, R x w -> mS x w) : ∀ {r : Result Next}, q5 P R r -> q5 P mS r
 | .ok (.value x) w', k => h _ _ k
 | .ok .skip w', k => h _ _ k
 | .ok (.enter f args) w', k => BF k fun e gY => fun ⟨x, ah, e2⟩ => ⟨x, ah, h _ _ e2⟩
 | .ok (.row row args) w', k => Rows.mono k h
 | .ok (.round l f tmps aY db) w', k => RoundIn.mono k fun e gY => fun ⟨x, ah, e2⟩ => ⟨x, ah, h _ _ e2⟩
 | .ok (.defer _) _, k | .ok .recover _, k | .ok (.spawn _) _, k | .ok (.comm ..) _, k | .ok .numGoroutine _, k | .ok .collect _, k | .ok (.watch _) _, k | .ok (.newcoro ..) _, k | .ok (.coroswitch ..) _, k
 | .ok (.sleep _) _, k | .ok (.timer _) _, k | .ok (.alone ..) _, k | .ok (.callThen ..) _, k | .ok (.stack ..) _, k | .halt .., k => k.elim
theorem K3 {P : Program} {R : Value -> World -> Prop} {ro : Option Nat} {o : Oper} {a : Act} {next : Act -> World -> Prop} {Q : Exit -> Act -> World -> Prop} (hn : ∀ x w, R x w -> next (a.put o.dst x) w) :
  ∀ {r : Result Next}, q5 P R r -> o.uponIn (ek ro) 0 P a next Q r
 | .ok (.value x) w', k => hn _ _ k
 | .ok .skip w', k => hn _ _ k
 | .ok (.enter f args) w', k => by
   have cn : CallsIn Fence.wide 0 P f args w' fun
    | .returned v, gY => next (a.put o.dst v) gY
    | .panicked chain, gY => Q (.panic chain) a gY
    | .outgrown, _ => LetsOut Q := callsIn_wide.2 (BF k fun e gY => by rintro ⟨x, rfl, e2⟩; exact hn _ _ e2)
   exact ⟨fun h => by simp [ek] at h, cn⟩
 | .ok (.row row args) w', k => by
   refine ⟨fun h => by simp [ek] at h, fun c cs _ => ?_⟩
   obtain ⟨v, bB, h1, h2⟩ := k c cs
   exact ⟨v, bB, hn _ _ h1, (stepsIn_wide.2 h2 : StepsIn (Machine.fenced P Fence.wide) P _ _)⟩
 | .ok (.round l f tmps aY db) w', k => by
   have cn : RoundIn Fence.wide 0 P l f tmps aY db w' fun
    | .returned v, gY => next (a.put o.dst v) gY
    | .panicked chain, gY => Q (.panic chain) a gY
    | .outgrown, _ => LetsOut Q := RoundIn.mono k fun e gY => by rintro ⟨x, rfl, e2⟩; exact hn _ _ e2
   exact ⟨fun h => by simp [ek] at h, cn⟩
 | .ok (.defer _) _, k | .ok .recover _, k | .ok (.spawn _) _, k | .ok (.comm ..) _, k | .ok .numGoroutine _, k | .ok .collect _, k | .ok (.watch _) _, k | .ok (.newcoro ..) _, k | .ok (.coroswitch ..) _, k
 | .ok (.sleep _) _, k | .ok (.timer _) _, k | .ok (.alone ..) _, k | .ok (.callThen ..) _, k | .ok (.stack ..) _, k | .halt .., k => k.elim
structure gx (C : Ctx) (fid : Nat -> Nat) (call : c3) : Prop where
 bN : lU call
 run : ∀ {G : bT} {H : Heap} {w : World} {f : V} {args : List V} {v : V} {H' : Heap} {low' : Nat} {K4 : Value} {xs : List Value}, bb C fid G H w -> bg fid G w f K4 -> a6 fid G w args xs ->
  call f args H = some (v, H', low') -> ∃ d, (Deferred.ofValue K4 ⟨xs⟩).run C.P w = .ok d w /\ q5 C.P (kM C fid G H w v H' low') ((invoke d.target d.args).run C.P w) /\
   (zw f = true -> ct args = false -> ∃ g aY, (invoke d.target d.args).run C.P w = .ok (.enter g aY) w)
theorem bb.restore (aa : bb C fid G H w) (hs : w.heap.size <= w'.heap.size) (ai : ∀ b, b < w.heap.size -> w'.heap[b]? = w.heap[b]?) : bb C fid G H w' where
 obj l h e := by
  obtain ⟨o, ho, hr⟩ := aa.obj l h e
  exact ⟨o, ho, hr.mono (.refl _) (fun b hb => ⟨hb, ai b (aa.cX b hb).1⟩) (ai _ (aa.blk l h e))⟩
 inj := aa.inj
 blk l h e := pY (aa.blk l h e) hs
 cX b hb := ⟨pY (aa.cX b hb).1 hs, (aa.cX b hb).2⟩
 jY := aa.jY
 e6 b o bt := ⟨(aa.e6 b o bt).1, by rw [ai b (aa.cX b (aa.e6 b o bt).1).1]; exact (aa.e6 b o bt).2⟩
theorem Ext.restore (hs : w.heap.size <= w'.heap.size) (ai : ∀ b, b < w.heap.size -> w'.heap[b]? = w.heap[b]?) (h1 : w'.os = w.os) (av : w'.output = w.output) (m n : Nat) : Ext G w G w' m n :=
 ⟨hs, h1, av, fun b hb _ => ai b hb, .refl _, fun _ h hb => .inl ⟨h, hb, .inl rfl⟩, fun _ h => h, fun _ h => .inl h⟩
theorem Ext.Rs {m n : Nat} (aa : bb C fid G H w) (h : Ext G w G' w' m n) (hm : H.length <= m) : ∀ b, b < w.heap.size -> w'.heap[b]? = w.heap[b]? := fun b hb =>
 h.ei b hb fun l x e _ => .inr (pY (aa.lt e) hm)
theorem Rt {o : Oper} {ρ : Operand -> Value} {f : Operand} {args : Array Operand} {ts : Array TypeId} (ho : o.op = .call { callee := .value f, args, argTypes := ts }) {P : Program} {w : World} {d : Deferred}
  (hd : (Deferred.ofValue (ρ f) (args.map ρ)).run P w = .ok d w) : (execOp ρ o).run P w = (invoke d.target d.args).run P w := by
 unfold execOp
 simp only [ho, resolve, Sem.run_bind, hd, Result.andThen]
section
variable {vars : List Nat} {ag : aj -> V} {ρ : Operand -> Value} {low low' : Nat} {v : V} {o : Oper} {call : c3}
theorem K5 (bx : eR C fid) (bj : gx C fid call) (aa : bb C fid G H w) (aM : fh C fid vars G w ag ρ) (ix : low <= H.length)
  (he : b9 call ag H low (C.op vars o.pos o.op) = some (v, H', low')) : q5 C.P (kM C fid G H w v H' low') ((execOp ρ o).run C.P w) := by
 have aby : (∀ raw f args, C.op vars o.pos o.op ≠ .call raw f args) -> q5 C.P (kM C fid G H w v H' low') ((execOp ρ o).run C.P w) := fun bA => by
  rw [xt bA] at he
  obtain ⟨x, aC, ax, hr, h1, h2, av, -, -⟩ := abq bx aa aM ix he
  rcases hr with hr | ⟨hr, rfl⟩
  · rw [hr]; exact ⟨ax, h1, h2, av⟩
  · rw [hr]; exact ⟨ax, h1, h2, av⟩
 by_cases bA : ∃ raw f args, C.op vars o.pos o.op = .call raw f args
 · obtain ⟨raw, k8, K6, cV⟩ := bA
   have cw : C.cI vars o.pos o.op = some (.call raw k8 K6) := by
    unfold Ctx.op at cV
    cases h : C.cI vars o.pos o.op with
    | none => rw [h] at cV; cases cV
    | some a => rw [h] at cV; simp only [vg] at cV; rw [cV]
   obtain ⟨f, args, ts, ho, ae, vG⟩ : ∃ f args ts, o.op = .call { callee := .value f, args, argTypes := ts } /\ C.bV vars f = some k8 /\ dH (C.bV vars) args.toList = some K6 := by
    cases ho : o.op with
    | call c =>
      rw [ho] at cw
      obtain ⟨callee, args, dQ⟩ := c
      cases callee with
      | value f =>
        simp only [Ctx.cI] at cw
        split at cw
        · rename_i h1 h2
          simp only [aA, cH.call.injEq] at cw
          obtain ⟨-, rfl, rfl⟩ := cw
          exact ⟨f, args, dQ, rfl, h1, h2⟩
        · cases cw
      | builtin b =>
        exfalso
        simp only [Ctx.cI] at cw
        unfold Ctx.builtin at cw
        repeat' split at cw
        all_goals first
         | (cases cw; done)
         | (simp only [aA, reduceCtorEq] at cw; done)
         | (obtain ⟨_, _, h⟩ := cD.1 cw; cases h; done)
      | invoke r n => simp [Ctx.cI] at cw
    | binOp a b c d e =>
      exfalso
      rw [ho] at cw
      simp only [Ctx.cI, Ctx.w6] at cw
      repeat' split at cw
      all_goals first
       | (cases cw; done)
       | (obtain ⟨_, _, h⟩ := cD.1 cw; cases h; done)
    | makeFunc g a b =>
      exfalso
      rw [ho] at cw
      cases g with
      | func f =>
        simp only [Ctx.cI] at cw
        split at cw <;> simp at cw
      | _ => simp [Ctx.cI] at cw
    | makeMap t r =>
      exfalso
      rw [ho] at cw
      cases r <;> simp [Ctx.cI] at cw
    | _ =>
      exfalso
      rw [ho] at cw
      simp only [Ctx.cI] at cw
      repeat' split at cw
      all_goals first
       | (cases cw; done)
       | (obtain ⟨_, _, h⟩ := cD.1 cw; cases h; done)
   have xv := aM f k8 ae
   have nE : a6 fid G w (K6.map ag) (args.map ρ).toList := by rw [Array.toList_map]; exact FH aM vG
   rw [cV] at he
   have q6 : (⟨(args.map ρ).toList⟩ : Array Value) = args.map ρ := rfl
   cases raw with
   | true =>
     simp only [b9] at he
     split at he
     · rename_i u H2 l h1
       cases he
       obtain ⟨d, hd, hn, -⟩ := bj.run aa xv nE h1
       rw [q6] at hd
       rw [Rt ho hd]
       refine hn.mono fun x bB hp => ?_
       obtain ⟨bq, p1, p2, p3⟩ := hp
       exact ⟨bq, p1, fun m hm => p2 m (by omega), p3⟩
     · cases he
   | false =>
     simp only [b9] at he
     split at he
     · rename_i vs H1 b0 aP
       obtain ⟨ax, dW, qj⟩ := Ks aa nE aP
       have K7 := xv.ext aa (dW.ext 0 (by omega))
       split at he
       · rename_i u H2 l h1
         obtain ⟨d, hd, hn, -⟩ := bj.run dW.rel K7 qj h1
         rw [q6] at hd
         rw [Rt ho hd]
         refine hn.mono fun x bB hp => ?_
         obtain ⟨bq, p1, p2, p3⟩ := hp
         split at he
         · rename_i hc
           cases he
           have dw := p2 H1.length hc.2
           have ai := dw.Rs dW.rel (aK _)
           exact ⟨G, aa.restore dw.size ai, fun m _ => .restore dw.size ai dw.os dw.output m _, p3.flat hc.1⟩
         · cases he
           exact ⟨bq, p1, fun m hm => (dW.ext m (by omega)).trans ((p2 m (by omega)).le (aK _) (Nat.le_of_eq dW.len.symm)), p3⟩
       · cases he
     · cases he
 · exact aby fun raw f args h => bA ⟨raw, f, args, h⟩
end
end Go.Abs
