/- Texts of this claim, joined and written short by a program. -/
import Derived.Test.YtaenhebjdjpdgaaGreatDoorP00
import Derived.KernelRfl
import Derived.Lib.Fields
import Derived.Lib.Atoi
import Derived.Lib.Bytealg
import Derived.Lib.Join
import Derived.Laws.World
set_option linter.unusedVariables false
set_option linter.unusedSimpArgs false
set_option linter.unusedSectionVars false
namespace Go.Abs
def sd (a b : c3) : Prop := ∀ f args H r, a f args H = some r -> b f args H = some r
variable {call ob : c3}
theorem tw (h : sd call ob) {ag : aj -> V} {H : Heap} {low : Nat} {op : cH} {r : V × Heap × Nat} (he : b9 call ag H low op = some r) : b9 ob ag H low op = some r := by
 cases op with
 | call raw f args =>
   cases raw
   · simp only [b9] at he ⊢
     split at he
     · rename_i vs H1 b0 h1
       split at he
       · rename_i u H2 l h2
         rw [h _ _ _ _ h2]
         exact he
       · cases he
     · cases he
   · simp only [b9] at he ⊢
     split at he
     · rename_i u H2 l h2
       rw [h _ _ _ _ h2]
       exact he
     · cases he
 | _ => exact he
theorem w9 (h : sd call ob) : ∀ (ops : List b3) (st : au) (wr : List Bool) (r : au × List Bool), c9 call ops st wr = some r -> c9 ob ops st wr = some r
 | [], st, wr, r, he => he
 | o :: ops, st, wr, r, he => by
   simp only [c9] at he ⊢
   split at he
   · rename_i hw
     try simp only [hw]
     split at he
     · rename_i v H' low' h1
       rw [tw h h1]
       exact w9 h ops _ _ _ he
     · cases he
   · rename_i hw
     try simp only [hw]
     exact w9 h ops _ _ _ he
   · cases he
theorem xa (h : sd call ob) : ∀ (ops : List b3) (st : au) (r : List au), gD call ops st = some r -> gD ob ops st = some r
 | [], st, r, he => he
 | o :: ops, st, r, he => by
   simp only [gD] at he ⊢
   split at he
   · rename_i hw
     try simp only [hw]
     split at he
     · rename_i v H' low' h1
       rw [tw h h1]
       obtain ⟨x, hx, rfl⟩ := cD.1 he
       simp only []
       rw [xa h ops _ _ hx]; rfl
     · cases he
   · rename_i hw
     try simp only [hw]
     obtain ⟨x, hx, rfl⟩ := cD.1 he
     rw [xa h ops _ _ hx]; rfl
   · cases he
theorem zA (h : sd call ob) {q : b3 × au × Heap} (he : kk call q = true) : kk ob q = true := by
 unfold kk at he ⊢
 split at he
 · rename_i hw; try simp only [hw]
 · rename_i hw
   try simp only [hw]
   split at he
   · rename_i v H1 b0 h1
     rw [tw h h1]
     simp only []
     split at he
     · rename_i v2 H2 dv h2
       rw [tw h h2]
       exact he
     · cases he
   · cases he
 · cases he
theorem Zb (h : sd call ob) {dK : List Nat} {ops : List b3} {wr : List Bool} {st : au} (he : sb call dK ops wr st = true) : sb ob dK ops wr st = true := by
 unfold sb at he ⊢
 split at he
 · rename_i cB ht
   rw [xa h _ _ _ ht]
   simp only [cd, fo] at he ⊢
   exact ⟨he.1, fun q bD => zA h (he.2 q bD)⟩
 · cases he
theorem J0 (h : sd call ob) {dK : List Nat} {ops : List b3} {wr : List Bool} {st : au} (he : n8 call dK ops wr st = true) : n8 ob dK ops wr st = true := by
 unfold n8 at he ⊢
 simp only [kG] at he ⊢
 rcases he with he | he
 · exact .inl (Zb h he)
 · right
   split at he
   · rename_i cB ht
     rw [xa h _ _ _ ht]
     simp only [cd, fo] at he ⊢
     exact ⟨he.1, fun q bD => zA h (he.2 q bD)⟩
   · cases he
theorem Ft {f k7 : au -> Option (X × au)} (h : ∀ st r, f st = some r -> k7 st = some r) : ∀ (n m : Nat) (st : au) (r : X × au), n <= m -> iter f n st = some r -> iter k7 m st = some r
 | 0, _, _, _, _, he => by cases he
 | n + 1, 0, _, _, hle, _ => by omega
 | n + 1, m + 1, st, r, hle, he => by
   simp only [iter] at he ⊢
   split at he
   · rename_i bW h1
     rw [h _ _ h1]
     exact Ft h n m _ _ (by omega) he
   · rename_i bA
     rw [h _ _ he]
     split
     · rename_i aU e; cases e; exact absurd he (bA _)
     · rfl
theorem qU (h : sd call ob) {n m : Nat} (hle : n <= m) : ∀ (c : cm) (st : au) (r : X × au), exec call n c st = some r -> exec ob m c st = some r
 | .skip, st, r, he => he
 | .w4 ops ok f, st, r, he => by
   simp only [exec] at he ⊢
   split at he
   · rename_i bW wr h1
     rw [w9 h _ _ _ _ h1]
     exact he
   · cases he
 | .region ops dK, st, r, he => by
   simp only [exec, au.fz] at he ⊢
   split at he
   · rename_i bW wr h1
     rw [w9 h _ _ _ _ h1]
     cases dK with
     | none => exact he
     | some b =>
       simp only at he ⊢
       split at he
       · rename_i hb
         rw [if_pos]
         · exact he
         · simp only [kG] at hb ⊢
           exact hb.imp id (J0 h)
       · cases he
   · cases he
 | .seq a b, st, r, he => by
   simp only [exec, au.fz] at he ⊢
   split at he
   · rename_i bW h1
     rw [qU h hle a _ _ h1]
     exact qU h hle b _ _ he
   · rename_i bA
     rw [qU h hle a _ _ he]
     split
     · rename_i bW e; cases e; exact absurd he (bA _)
     · rfl
 | .cond c t e, st, r, he => by
   simp only [exec, au.fz] at he ⊢
   split at he
   · exact qU h hle t _ _ he
   · exact qU h hle e _ _ he
   · cases he
 | .block id c, st, r, he => by
   simp only [exec, au.fz] at he ⊢
   split at he
   · rename_i sc bW h1
     rw [qU h hle c _ _ h1]
     exact he
   · rename_i bA
     rw [qU h hle c _ _ he]
     split
     · rename_i sc bW e; cases e; exact absurd he (bA _ _)
     · rfl
 | .loop c, st, r, he => by
   simp only [exec, au.fz] at he ⊢
   exact Ft (fun st r hr => qU h hle c st r hr) n m st r hle he
 | .rangeFunc f ps a b, st, r, he => by
   simp only [exec, au.fz] at he ⊢
   split at he
   · cases he
   · rename_i hc
     try rw [if_neg hc]
     split at he
     · rename_i u H1 b0 h1
       rw [h _ _ _ _ h1]
       exact he
     · cases he
 | .exit id, st, r, he => he
 | .ret, st, r, he => he
 | .fail, st, r, he => he
def J1 (ex ex' : cm -> au -> Option (X × au)) : Prop := ∀ c st r, ex c st = some r -> ex' c st = some r
theorem PV {ex ex' : cm -> au -> Option (X × au)} (h : J1 ex ex') {f : iw} {args : List V} {H : Heap} {r : V × Heap × Nat} (he : jl ex f args H = some r) : jl ex' f args H = some r := by
 unfold jl at he ⊢
 split at he
 · rename_i hl
   rw [if_pos hl]
   split at he
   · rename_i st h1; rw [h _ _ _ h1]; exact he
   · rename_i st h1; rw [h _ _ _ h1]; exact he
   · cases he
 · cases he
theorem PW {ex ex' : cm -> au -> Option (X × au)} (h : J1 ex ex') {l : Nat} {args : List V} {H : Heap} {r : V × Heap × Nat} (he : n9 ex l args H = some r) : n9 ex' l args H = some r := by
 unfold n9 at he ⊢
 split at he
 · split at he
   · rename_i hl
     simp only [hl, if_true]
     split at he
     · rename_i st h1
       simp only [h _ _ _ h1]
       split at he
       · rename_i h2
         try simp only [h2]
         split at he
         · rename_i av
           simp only [h _ _ _ av]
           exact he
         · cases he
       · cases he
     · cases he
   · cases he
 · cases he
theorem PX (ad : Nat -> Option ca) : ∀ n, sd (cu ad n) (cu ad (n + 1))
 | 0 => fun f args H r he => by simp [cu] at he
 | n + 1 => fun f args H r he => by
   have hx : J1 (exec (cu ad n) n) (exec (cu ad (n + 1)) (n + 1)) := fun c st r hr => qU (PX ad n) (Fm n) c st r hr
   show p8 ad (cu ad (n + 1)) (n + 1) f args H = some r
   change p8 ad (cu ad n) n f args H = some r at he
   unfold p8 at he ⊢
   split at he
   · split at he
     · rename_i h1; try simp only [h1]
       exact PV hx he
     · rename_i h1; try simp only [h1]
       exact he
     · cases he
   · exact PW hx he
   · cases he
theorem lR (ad : Nat -> Option ca) {n : Nat} : ∀ {m : Nat}, n <= m -> sd (cu ad n) (cu ad m)
 | 0, h => by have : n = 0 := by omega
              subst this; exact fun _ _ _ _ h => h
 | m + 1, h => by
   rcases gg n (m + 1) with h1 | h1
   · exact fun f args H r he => PX ad m f args H r (lR ad (m := m) (by omega) f args H r he)
   · have : n = m + 1 := by omega
     subst this; exact fun _ _ _ _ h => h
open Classical in
noncomputable def cK (ad : Nat -> Option ca) : c3 := fun f args H => if h : ∃ r n, cu ad n f args H = some r then some h.choose else none
open Classical in
noncomputable def dO (ad : Nat -> Option ca) (c : cm) (st : au) : Option (X × au) := if h : ∃ r n, exec (cu ad n) n c st = some r then some h.choose else none
variable {ad : Nat -> Option ca}
theorem tx {f : V} {args : List V} {H : Heap} {r : V × Heap × Nat} : cK ad f args H = some r ↔ ∃ n, cu ad n f args H = some r := by
 unfold cK
 constructor
 · intro h
   split at h
   · rename_i hex; cases h; exact hex.choose_spec
   · cases h
 · rintro ⟨n, hn⟩
   have hex : ∃ r n, cu ad n f args H = some r := ⟨r, n, hn⟩
   rw [dif_pos hex]
   obtain ⟨m, hm⟩ := hex.choose_spec
   have a := lR ad (r4 n m) _ _ _ _ hn
   have b := lR ad (qO n m) _ _ _ _ hm
   rw [a] at b
   exact b.symm
theorem tz {n m : Nat} (hle : n <= m) {c : cm} {st : au} {r : X × au} (h : exec (cu ad n) n c st = some r) : exec (cu ad m) m c st = some r := qU (lR ad hle) hle c st r h
theorem fS {c : cm} {st : au} {r : X × au} : dO ad c st = some r ↔ ∃ n, exec (cu ad n) n c st = some r := by
 unfold dO
 constructor
 · intro h
   split at h
   · rename_i hex; cases h; exact hex.choose_spec
   · cases h
 · rintro ⟨n, hn⟩
   have hex : ∃ r n, exec (cu ad n) n c st = some r := ⟨r, n, hn⟩
   rw [dif_pos hex]
   obtain ⟨m, hm⟩ := hex.choose_spec
   have a := tz (r4 n m) hn
   have b := tz (qO n m) hm
   rw [a] at b
   exact b.symm
theorem BL (n : Nat) : sd (cu ad n) (cK ad) := fun _ _ _ _ h => tx.2 ⟨n, h⟩
theorem vu {α : Type} {a b : Option α} (h : ∀ r, a = some r ↔ b = some r) : a = b := by
 cases a with
 | none => cases b with
   | none => rfl
   | some y => exact absurd ((h y).2 rfl) (by simp)
 | some x => exact ((h x).1 rfl).symm
theorem Fu {ag : aj -> V} {H : Heap} {low : Nat} {op : cH} {r : V × Heap × Nat} : b9 (cK ad) ag H low op = some r ↔ ∃ n, b9 (cu ad n) ag H low op = some r := by
 constructor
 · intro he
   cases op with
   | call raw f args =>
     cases raw
     · simp only [b9] at he ⊢
       split at he
       · rename_i vs H1 b0 h1
         split at he
         · rename_i u H2 l h2
           obtain ⟨n, hn⟩ := tx.1 h2
           exact ⟨n, by rw [hn]; exact he⟩
         · cases he
       · cases he
     · simp only [b9] at he ⊢
       split at he
       · rename_i u H2 l h2
         obtain ⟨n, hn⟩ := tx.1 h2
         exact ⟨n, by rw [hn]; exact he⟩
       · cases he
   | _ => exact ⟨0, he⟩
 · rintro ⟨n, hn⟩; exact tw (BL n) hn
theorem J2 : ∀ (ops : List b3) (st : au) (wr : List Bool) (r : au × List Bool), c9 (cK ad) ops st wr = some r -> ∃ n, c9 (cu ad n) ops st wr = some r
 | [], st, wr, r, he => ⟨0, he⟩
 | o :: ops, st, wr, r, he => by
   simp only [c9] at he ⊢
   split at he
   · rename_i hw
     split at he
     · rename_i v H' low' h1
       obtain ⟨n, hn⟩ := Fu.1 h1
       obtain ⟨m, hm⟩ := J2 ops _ _ _ he
       refine ⟨max n m, ?_⟩
       rw [tw (lR ad (r4 n m)) hn]
       exact w9 (lR ad (qO n m)) ops _ _ _ hm
     · cases he
   · rename_i hw
     obtain ⟨m, hm⟩ := J2 ops _ _ _ he
     exact ⟨m, hm⟩
   · cases he
theorem qa (st : au) : dO ad .skip st = some (.normal, st) := fS.2 ⟨0, rfl⟩
theorem qb (id : Nat) (st : au) : dO ad (.exit id) st = some (.exit id, st) := fS.2 ⟨0, rfl⟩
theorem qc (st : au) : dO ad .ret st = some (.ret, st) := fS.2 ⟨0, rfl⟩
theorem Fv : ∀ (ops : List b3) (st : au) (r : List au), gD (cK ad) ops st = some r -> ∃ n, gD (cu ad n) ops st = some r
 | [], st, r, he => ⟨0, he⟩
 | o :: ops, st, r, he => by
   simp only [gD] at he ⊢
   split at he
   · rename_i hw
     split at he
     · rename_i v H' low' h1
       obtain ⟨n, hn⟩ := Fu.1 h1
       obtain ⟨x, hx, rfl⟩ := cD.1 he
       obtain ⟨m, hm⟩ := Fv ops _ _ hx
       refine ⟨max n m, ?_⟩
       rw [tw (lR ad (r4 n m)) hn]
       simp only []
       rw [xa (lR ad (qO n m)) ops _ _ hm]; rfl
     · cases he
   · rename_i hw
     obtain ⟨x, hx, rfl⟩ := cD.1 he
     obtain ⟨m, hm⟩ := Fv ops _ _ hx
     exact ⟨m, by rw [hm]; rfl⟩
   · cases he
theorem Zc {q : b3 × au × Heap} (he : kk (cK ad) q = true) : ∃ n, kk (cu ad n) q = true := by
 unfold kk at he ⊢
 split at he
 · rename_i hw; exact ⟨0, by try simp only [hw]⟩
 · rename_i hw
   try simp only [hw]
   split at he
   · rename_i v H1 b0 h1
     split at he
     · rename_i v2 H2 dv h2
       obtain ⟨n, hn⟩ := Fu.1 h1
       obtain ⟨m, hm⟩ := Fu.1 h2
       refine ⟨max n m, ?_⟩
       rw [tw (lR ad (r4 n m)) hn, tw (lR ad (qO n m)) hm]
       exact he
     · cases he
   · cases he
 · cases he
theorem J3 : ∀ (l : List (b3 × au × Heap)), l.all (kk (cK ad)) = true -> ∃ n, l.all (kk (cu ad n)) = true
 | [], _ => ⟨0, rfl⟩
 | q :: l, he => by
   simp only [List.all_cons, cd] at he
   obtain ⟨n, hn⟩ := Zc he.1
   obtain ⟨m, hm⟩ := J3 l he.2
   refine ⟨max n m, ?_⟩
   simp only [List.all_cons, cd]
   refine ⟨zA (lR ad (r4 n m)) hn, ?_⟩
   rw [fo] at hm ⊢
   exact fun q bD => zA (lR ad (qO n m)) (hm q bD)
theorem Zd {dK : List Nat} {ops : List b3} {wr : List Bool} {st : au} (he : sb (cK ad) dK ops wr st = true) : ∃ n, sb (cu ad n) dK ops wr st = true := by
 unfold sb at he
 split at he
 · rename_i cB ht
   simp only [cd] at he
   obtain ⟨n, hn⟩ := Fv _ _ _ ht
   obtain ⟨m, hm⟩ := J3 _ he.2
   refine ⟨max n m, ?_⟩
   unfold sb
   rw [xa (lR ad (r4 n m)) _ _ _ hn]
   simp only [cd]
   refine ⟨he.1, ?_⟩
   rw [fo] at hm ⊢
   exact fun q bD => zA (lR ad (qO n m)) (hm q bD)
 · cases he
theorem Ze {dK : List Nat} {ops : List b3} {wr : List Bool} {st : au} (he : n8 (cK ad) dK ops wr st = true) : ∃ n, n8 (cu ad n) dK ops wr st = true := by
 unfold n8 at he
 simp only [kG] at he
 rcases he with he | he
 · obtain ⟨n, hn⟩ := Zd he
   exact ⟨n, by unfold n8; rw [hn]; rfl⟩
 · split at he
   · rename_i cB ht
     simp only [cd] at he
     obtain ⟨n, hn⟩ := Fv _ _ _ ht
     obtain ⟨m, hm⟩ := J3 _ he.2
     refine ⟨max n m, ?_⟩
     unfold n8
     rw [xa (lR ad (r4 n m)) _ _ _ hn]
     simp only [kG, cd]
     refine .inr ⟨he.1, ?_⟩
     rw [fo] at hm ⊢
     exact fun q bD => zA (lR ad (qO n m)) (hm q bD)
   · cases he
theorem mH (ops : List b3) (dK : Option (List Nat)) (st : au) : dO ad (.region ops dK) st = match c9 (cK ad) ops { st with aE := [] } [] with
  | some (aU, wr) => match dK with
    | none => some (.normal, { aU with aE := [] })
    | some b => if p7 b ops wr || n8 (cK ad) b ops wr { st with aE := [] } then some (.normal, { aU with aE := [] }) else none
  | none => none := by
 refine vu fun r => ?_
 rw [fS]
 constructor
 · rintro ⟨n, hn⟩
   simp only [exec, au.fz] at hn
   split at hn
   · rename_i bW wr h1
     rw [w9 (BL n) _ _ _ _ h1]
     cases dK with
     | none => exact hn
     | some b =>
       simp only at hn ⊢
       split at hn
       · rename_i hb
         rw [if_pos]
         · exact hn
         · simp only [kG] at hb ⊢
           exact hb.imp id (J0 (BL n))
       · cases hn
   · cases hn
 · intro h
   split at h
   · rename_i bW wr h1
     obtain ⟨n, hn⟩ := J2 _ _ _ _ h1
     cases dK with
     | none => exact ⟨n, by simp only [exec, au.fz]; rw [hn]; exact h⟩
     | some b =>
       simp only at h
       split at h
       · rename_i hb
         simp only [kG] at hb
         rcases hb with hb | hb
         · exact ⟨n, by simp only [exec, au.fz]; rw [hn]; simp only []; rw [hb]; exact h⟩
         · obtain ⟨m, hm⟩ := Ze hb
           refine ⟨max n m, ?_⟩
           simp only [exec, au.fz]
           rw [w9 (lR ad (r4 n m)) _ _ _ _ hn]
           simp only []
           rw [J0 (lR ad (qO n m)) hm, Bool.or_true]
           exact h
       · cases h
   · cases h
theorem jD (a b : cm) (st : au) : dO ad (.seq a b) st = match dO ad a st with
  | some (.normal, aU) => dO ad b aU
  | r => r := by
 refine vu fun r => ?_
 rw [fS]
 constructor
 · rintro ⟨n, hn⟩
   simp only [exec, au.fz] at hn
   split at hn
   · rename_i bW h1
     rw [fS.2 ⟨n, h1⟩]
     exact fS.2 ⟨n, hn⟩
   · rename_i bA
     rw [fS.2 ⟨n, hn⟩]
     split
     · rename_i bW e; cases e; exact absurd hn (bA _)
     · rfl
 · intro h
   split at h
   · rename_i bW h1
     obtain ⟨n, hn⟩ := fS.1 h1
     obtain ⟨m, hm⟩ := fS.1 h
     exact ⟨max n m, by simp only [exec, au.fz]; rw [tz (r4 n m) hn]; exact tz (qO n m) hm⟩
   · rename_i bA
     obtain ⟨n, hn⟩ := fS.1 h
     refine ⟨n, ?_⟩
     simp only [exec, au.fz]
     rw [hn]
     split
     · rename_i bW e; cases e; exact absurd h (bA _)
     · rfl
theorem oc (c : aj) (t e : cm) (st : au) : dO ad (.cond c t e) st = match c.ag st.aE st.aw with
  | .bool true => dO ad t st
  | .bool false => dO ad e st
  | _ => none := by
 refine vu fun r => ?_
 rw [fS]
 constructor
 · rintro ⟨n, hn⟩
   simp only [exec, au.fz] at hn
   split at hn
   · rename_i hc
     try simp only [hc]
     exact fS.2 ⟨n, hn⟩
   · rename_i hc
     try simp only [hc]
     exact fS.2 ⟨n, hn⟩
   · cases hn
 · intro h
   split at h
   · rename_i hc
     obtain ⟨n, hn⟩ := fS.1 h
     exact ⟨n, by simp only [exec, hc]; exact hn⟩
   · rename_i hc
     obtain ⟨n, hn⟩ := fS.1 h
     exact ⟨n, by simp only [exec, hc]; exact hn⟩
   · cases h
theorem nw (id : Nat) (c : cm) (st : au) : dO ad (.block id c) st = match dO ad c st with
  | some (.exit sc, aU) => if sc = id then some (.normal, aU) else some (.exit sc, aU)
  | r => r := by
 refine vu fun r => ?_
 rw [fS]
 constructor
 · rintro ⟨n, hn⟩
   simp only [exec, au.fz] at hn
   split at hn
   · rename_i h1
     rw [fS.2 ⟨n, h1⟩]
     exact hn
   · rename_i bA
     rw [fS.2 ⟨n, hn⟩]
     split
     · rename_i e; cases e; exact absurd hn (bA _ _)
     · rfl
 · intro h
   split at h
   · rename_i h1
     obtain ⟨n, hn⟩ := fS.1 h1
     exact ⟨n, by simp only [exec, au.fz]; rw [hn]; exact h⟩
   · rename_i bA
     obtain ⟨n, hn⟩ := fS.1 h
     refine ⟨n, ?_⟩
     simp only [exec, au.fz]
     rw [hn]
     split
     · rename_i e; cases e; exact absurd h (bA _ _)
     · rfl
theorem Zf {f : au -> Option (X × au)} {n m : Nat} {st : au} {r : X × au} (hle : n <= m) (h : iter f n st = some r) : iter f m st = some r := Ft (fun _ _ h => h) n m st r hle h
theorem se (c : cm) (st : au) : dO ad (.loop c) st = match dO ad c st with
  | some (.normal, aU) => dO ad (.loop c) aU
  | r => r := by
 refine vu fun r => ?_
 rw [fS]
 constructor
 · rintro ⟨n, hn⟩
   simp only [exec, au.fz] at hn
   cases n with
   | zero => cases hn
   | succ n =>
     simp only [iter] at hn
     split at hn
     · rename_i bW h1
       rw [fS.2 ⟨n + 1, h1⟩]
       exact fS.2 ⟨n + 1, by simp only [exec, au.fz]; exact Zf (Fm n) hn⟩
     · rename_i bA
       rw [fS.2 ⟨n + 1, hn⟩]
       split
       · rename_i e; cases e; exact absurd hn (bA _)
       · rfl
 · intro h
   split at h
   · rename_i bW h1
     obtain ⟨n, hn⟩ := fS.1 h1
     obtain ⟨m, hm⟩ := fS.1 h
     simp only [exec, au.fz] at hm
     refine ⟨max n m + 1, ?_⟩
     simp only [exec, iter]
     rw [tz (show n <= max n m + 1 by omega) hn]
     exact Ft (fun st r hr => tz (show m <= max n m + 1 by omega) hr) m (max n m) _ _ (qO n m) hm
   · rename_i bA
     obtain ⟨n, hn⟩ := fS.1 h
     refine ⟨n + 1, ?_⟩
     simp only [exec, iter]
     rw [tz (Fm n) hn]
     split
     · rename_i e; cases e; exact absurd h (bA _)
     · rfl
theorem PY (f : aj) (ps : List Nat) (a b : cm) (st : au) : dO ad (.rangeFunc f ps a b) st =
  if (BJ st.H st.ro && zw (f.ag st.aE st.aw)) = false then none else
  match cK ad (f.ag st.aE st.aw) [.yield st.H.length] (st.H ++ [.loop .ready .normal st.aw ps a b]) with
  | some (_, H', low') => match H'[st.H.length]? with
    | some (.loop ls sa _ _ _ _) => if ls = .busy then none else some (sa, { st with H := H'.set st.H.length .gone, low := min st.low low' })
    | _ => none
  | none => none := by
 refine vu fun r => ?_
 rw [fS]
 constructor
 · rintro ⟨n, hn⟩
   simp only [exec, au.fz] at hn
   split at hn
   · cases hn
   · rename_i hc
     rw [if_neg hc]
     split at hn
     · rename_i h1
       rw [BL n _ _ _ _ h1]
       exact hn
     · cases hn
 · intro h
   split at h
   · cases h
   · rename_i hc
     split at h
     · rename_i h1
       obtain ⟨n, hn⟩ := tx.1 h1
       exact ⟨n, by simp only [exec, au.fz]; rw [if_neg hc, hn]; exact h⟩
     · cases h
theorem sf (i : Nat) (first caps args : List V) (H : Heap) : cK ad (.fn i first caps) args H = match ad i with
  | some (.code fn) => jl (dO ad) fn (first ++ args ++ caps) H
  | some (.ext spec) => if ct (first ++ args ++ caps) then (spec (first ++ args ++ caps)).map fun v => (v, H, H.length) else none
  | none => none := by
 refine vu fun r => ?_
 rw [tx]
 constructor
 · rintro ⟨n, hn⟩
   cases n with
   | zero => simp [cu] at hn
   | succ n =>
     simp only [cu, p8] at hn
     split at hn
     · rename_i h1; try simp only [h1]
       exact PV (ex' := dO ad) (fun c st r h => fS.2 ⟨n, h⟩) hn
     · rename_i h1; try simp only [h1]
       exact hn
     · cases hn
 · intro h
   cases ht : ad i with
   | none => rw [ht] at h; cases h
   | some F =>
     rw [ht] at h
     cases F with
     | ext spec => exact ⟨1, by simp only [cu, p8, ht]; exact h⟩
     | code fn =>
       simp only at h
       unfold jl at h
       split at h
       · rename_i hl
         split at h
         · rename_i st h1
           obtain ⟨n, hn⟩ := fS.1 h1
           exact ⟨n + 1, by simp only [cu, p8, ht, jl]; rw [if_pos hl, hn]; exact h⟩
         · rename_i st h1
           obtain ⟨n, hn⟩ := fS.1 h1
           exact ⟨n + 1, by simp only [cu, p8, ht, jl]; rw [if_pos hl, hn]; exact h⟩
         · cases h
       · cases h
theorem Zg (l : Nat) (args : List V) (H : Heap) : cK ad (.yield l) args H = n9 (dO ad) l args H := by
 refine vu fun r => ?_
 rw [tx]
 constructor
 · rintro ⟨n, hn⟩
   cases n with
   | zero => simp [cu] at hn
   | succ n => exact PW (fun c st r h => fS.2 ⟨n, h⟩) hn
 · intro h
   unfold n9 at h
   split at h
   · rename_i hl
     split at h
     · rename_i hlen
       split at h
       · rename_i st h1
         split at h
         · rename_i h2
           split at h
           · rename_i av
             obtain ⟨n, hn⟩ := fS.1 h1
             obtain ⟨m, hm⟩ := fS.1 av
             refine ⟨max n m + 1, ?_⟩
             simp only [cu, p8, n9, hl, hlen, if_true]
             simp only [tz (r4 n m) hn, h2, tz (qO n m) hm]
             exact h
           · cases h
         · cases h
       · cases h
     · cases h
   · cases h
end Go.Abs
namespace Go.Abs
inductive Fw where
 | leaf
 | node (l : Fw) (k : Nat) (f : ca) (r : Fw)
def Fw.get : Fw -> Nat -> Option ca
 | .leaf, _ => none
 | .node l k f r, i => bif Nat.blt i k then l.get i else bif Nat.blt k i then r.get i else some f
def iR (l : List (List V × V)) : List V -> Option V := fun args => match l with
 | [] => none
 | (aY, v) :: r => bif mc args aY then some v else iR r args
def over (ad : Nat -> Option ca) (k : Nat) (spec : List V -> Option V) : Nat -> Option ca := fun i => bif Nat.beq i k then some (.ext spec) else ad i
def iS (ad : Nat -> Option ca) (n i : Nat) : List (List V × V) -> Prop
 | [] => True
 | (aY, v) :: r => (bO v = true /\ cu ad n (.fn i [] []) aY [] = some (v, [], 0)) /\ iS ad n i r
end Go.Abs
namespace Go.Abs.b1
open Go Go.Abs
abbrev aq (n : Int) : V := .int .i64 n
def Zh : V := .agg [aq 0, aq (-1)]
def J4 : V := .list 2 [Zh]
def Zi : V := .agg [aq 0, aq 1]
def J5 : V := .list 2 [Zi]
def Zj : V := .agg [aq 1, aq (-1)]
def J6 : V := .list 2 [Zj]
def Zk : V := .agg [aq 1, aq 1]
def BM : V := .list 2 [Zk]
def PZ : V := .agg [aq 36, .str [50], aq 7, aq 8, .c0]
def Zl : V := .list 5 [PZ]
def P0 : V := .agg [aq 3, .str [115], aq 0, aq 9, Zl]
def P1 : V := .agg [aq 35, .str [115], aq 24, aq 25, .c0]
def Zm : V := .list 5 [P1]
def P2 : V := .agg [aq 11, .str [97], aq 21, aq 25, Zm]
def Zn : V := .list 5 [P2]
def P3 : V := .agg [aq 10, .str [], aq 20, aq 26, Zn]
def Zo : V := .list 5 [P3]
def P4 : V := .agg [aq 4, .str [114], aq 10, aq 27, Zo]
def P5 : V := .agg [aq 35, .str [115], aq 43, aq 44, .c0]
def Zp : V := .list 5 [P5]
def P6 : V := .agg [aq 24, .str [112], aq 40, aq 44, Zp]
def Zq : V := .list 5 [P6]
def P7 : V := .agg [aq 23, .str [], aq 39, aq 45, Zq]
def P8 : V := .agg [aq 1, .str [], aq 45, aq 45, .c0]
def P9 : V := .agg [aq 35, .str [112], aq 56, aq 57, .c0]
def Qa : V := .agg [aq 36, .str [48], aq 61, aq 62, .c0]
def Qb : V := .list 5 [P9, Qa]
def Fx : V := .agg [aq 40, .str [33, 61], aq 56, aq 62, Qb]
def Zr : V := .list 5 [Fx]
def Qc : V := .agg [aq 26, .str [], aq 48, aq 63, Zr]
def Qd : V := .agg [aq 35, .str [112], aq 73, aq 74, .c0]
def Zs : V := .list 5 [Qd]
def Qe : V := .agg [aq 22, .str [114], aq 71, aq 75, Zs]
def Zt : V := .list 5 [Qe]
def Qf : V := .agg [aq 28, .str [], aq 64, aq 76, Zt]
def Zu : V := .list 5 [Qc, Qf]
def Fy : V := .agg [aq 25, .str [], aq 46, aq 78, Zu]
def Zv : V := .list 5 [P7, P8, Fy]
def Qg : V := .agg [aq 9, .str [111], aq 28, aq 78, Zv]
def Qh : V := .list 5 [P0, P4, Qg]
def Zw : V := .agg [.str [115], aq 2]
def J7 : V := .list 2 [Zw]
def Zx : V := .agg [.str [114], aq 0, .list 1 [aq 0], aq 0, aq 1, aq 0]
def J8 : V := .list 6 [Zx]
def Zy : V := .agg [.str [112], aq 0, aq 0, aq 0]
def Zz : V := .list 4 [Zy]
def ZA : V := .agg [.str [111], .bool false, Zz, aq 7]
def ZB : V := .list 4 [ZA]
def vv : V := .agg [aq 2, .str [], aq 0, aq 78, Qh, J7, J8, .c0, ZB]
def tA : V := .agg [aq 2, .str [], aq 0, aq 78, Qh]
def ZC : V := .agg [.str [112], aq 0, aq 0, aq 0, aq 0]
def Qi : V := .list 5 [ZC]
def ZD : V := .agg [aq 40, .str [33, 61], aq 56, aq 62, Qb, aq 0, aq (-2), aq 0, aq 0]
def Qj : V := .ba [ZD, .c0]
def ZE : V := .agg [.str [112], aq 0, aq 0, aq 0, aq 1]
def Qk : V := .list 5 [ZE]
def Ql : V := .str [115, 111, 114, 116, 32, 115, 32, 50, 59, 32, 114, 101, 108, 97, 116, 105, 111, 110, 32, 114, 40, 97, 58, 32, 115, 41, 59, 32, 111, 112, 101, 114, 97, 116, 105, 111, 110, 32, 111, 40, 112, 58, 32, 115, 41, 32, 123, 32, 114, 101, 113, 117, 105, 114, 101, 32, 112, 32, 33, 61, 32, 48, 59, 32, 105, 110, 115, 101, 114, 116, 32, 114, 40, 112, 41, 59, 32, 125]
def ZF : V := .agg [aq 0, aq 0, J4, aq 0, aq 0, aq 0]
def ZG : V := .agg [aq 0, aq 0, J5, aq 1, aq 0, aq 0]
def ZH : V := .agg [aq 0, aq 0, J6, aq 0, aq 0, aq 0]
def ZI : V := .agg [aq 0, aq 0, BM, aq 1, aq 0, aq 0]
def Qm : V := .list 6 [ZF, ZG, ZH, ZI]
def ZJ : V := .list 1 [.str [114]]
def ZK : V := .agg [.str [111], .bool false, .list 1 [aq 0]]
def ZL : V := .list 3 [ZK]
def ZM : V := .agg [aq 0, .list 1 [aq 1], BM, .c0, .c0]
def ZN : V := .list 5 [ZM]
def Qn : V := .agg [.list 1 [aq 2], J8, ZJ, Qm, ZL, ZN, .c0]
end Go.Abs.b1
namespace Go.Abs.b1
open Go Go.Abs
def Fz : List V -> Option V
 | [.str s] => if s.all (fun b => b < 128) && decide (s.length < 4294967281) then some (if (Lib.fields s).isEmpty then .emp else .list 1 ((Lib.fields s).map .str)) else none
 | _ => none
def J9 : List V -> Option V
 | [.str s] => if s.length <= 18 then (Lib.atoi s).map fun n => .ba [.int .i64 n, .iN] else none
 | _ => none
def FA : List V -> Option V
 | [.str s, .int .u8 c] => some (.int .i64 (Lib.indexByte s (UInt8.ofNat c.toNat)))
 | _ => none
def strs : List V -> Option (List (List UInt8))
 | [] => some []
 | .str s :: r => (strs r).map (s :: ·)
 | _ => none
def Ka : List V -> Option V
 | [.c0, .str _] => some (.str [])
 | [.list es ds, .str sep] => match strs ds with
   | some l => if es = 1 /\ l ≠ [] /\ l.length <= 4096 /\ (Lib.join l sep).length <= 1000000 then some (.str (Lib.join l sep)) else none
   | none => none
 | _ => none
def Kb : List V -> Option V
 | [.int .i64 n] => if 0 <= n /\ n < 10 then some (.str [UInt8.ofNat (48 + n.toNat)]) else none
 | _ => none
def Kc : List V -> Option V
 | [.int .u64 n] => if n = 0 then some (.int .i64 0) else if n = 1 then some (.int .i64 1) else if n = 2 then some (.int .i64 2) else none
 | _ => none
def Kd : List V -> Option V
 | [.str s, .str [c]] => if c < 128 then some (.str (s.dropWhile (· == c))) else none
 | _ => none
def Qo : List (List V × V) := [([J4], J4), ([J5], J5), ([J6], J6), ([BM], BM)]
def Qp : List (List V × V) := [([vv, aq 0, .list 1 [aq 1]], .ba [.agg [BM, .c0, .c0], aq 0])]
end Go.Abs.b1
namespace Go.Abs
open Go
structure Home where
 b : Nat
 tag : Nat
 ff : Nat
 dW : Bool
structure bT where
 β : Nat -> Option Home
 I : Nat -> Prop
def asJ (w : World) (b o : Nat) (vals : List Value) : Prop :=
 ∀ (j : Nat) (x : Value), vals[j]? = some x -> w.cell? ⟨b, o + j, none⟩ = some x
mutual
inductive fE (w : World) (I : Nat -> Prop) : V -> Value -> Prop
 | bool (b : Bool) : fE w I (.bool b) (.bool b)
 | int (k : IntKind) (n : Int) : fE w I (.int k n) (.int k n)
 | str (s : List UInt8) : fE w I (.str s) (.string ⟨⟨s⟩⟩)
 | c0 : fE w I .c0 (.slice none 0 0)
 | emp (a : Addr) : fE w I .emp (.slice (some a) 0 0)
 | tB (es : Nat) (a : Addr) (cap : Nat) : fE w I (.list es []) (.slice (some a) 0 cap)
 | list (es : Nat) (ds : List V) (b o cap : Nat) (vals : List Value) (aZ : I b) (hc : asJ w b o vals) (hu : ∀ d ∈ ds, (aG d).length = es)
  (hr : c6 w I (ds.flatMap aG) vals) (hl : ds.length <= cap) : fE w I (.list es ds) (.slice (some ⟨b, o, none⟩) ds.length cap)
 | iM : fE w I .iM (.pointer none)
 | hU : fE w I .hU (.map none)
 | jB : fE w I .jB .nilFunc
 | iN : fE w I .iN .nilIface
 | agg (vs : List V) (vals : List Value) (hr : c6 w I vs vals) : fE w I (.agg vs) (.agg ⟨vals⟩)
 | ba (vs : List V) (vals : List Value) (hr : c6 w I vs vals) : fE w I (.ba vs) (.tuple ⟨vals⟩)
 | iface (t : Nat) (v : V) (x : Value) (hr : fE w I v x) : fE w I (.iface t v) (.iface t x)
 | fn (i : Nat) (fs cs : List V) (xs cN : List Value) (ae : c6 w I fs xs) (hc : c6 w I cs cN) : fE w I (.fn i fs cs) (.func (.func i) ⟨xs⟩ ⟨cN⟩)
inductive c6 (w : World) (I : Nat -> Prop) : List V -> List Value -> Prop
 | nil : c6 w I [] []
 | cons (v : V) (x : Value) (vs : List V) (xs : List Value) (h : fE w I v x) (hs : c6 w I vs xs) : c6 w I (v :: vs) (x :: xs)
end
section
mutual
inductive bg (fid : Nat -> Nat) (G : bT) (w : World) : V -> Value -> Prop
 | p (v : V) (x : Value) (h : fE w G.I v x) : bg fid G w v x
 | ptr (l o : Nat) (h : Home) (hb : G.β l = some h) (ht : h.tag = 0) : bg fid G w (.ptr l o) (.pointer (some ⟨h.b, o, none⟩))
 | gw (l es i f tag : Nat) (h : Home) (a : Addr) (hb : G.β l = some h) (hle : tag <= h.tag) (ao : h.tag = tag -> a = ⟨h.b, i * es + f, none⟩) :
  bg fid G w (.gw l es i f tag) (.pointer (some a))
 | dB (vs : List V) (f b o : Nat) (vals : List Value) (aZ : G.I b) (hc : asJ w b o vals) (hr : c6 w G.I vs vals) : bg fid G w (.dB vs f) (.pointer (some ⟨b, o + f, none⟩))
 | cQ (l es off len tag : Nat) (h : Home) (a : Addr) (n cap : Nat) (hb : G.β l = some h) (hle : tag <= h.tag)
  (ao : h.tag = tag -> a = ⟨h.b, off * es, none⟩ /\ n = len /\ (off + cap) * es <= h.ff /\ len <= cap) : bg fid G w (.cQ l es off len tag) (.slice (some a) n cap)
 | map (l : Nat) (h : Home) (hb : G.β l = some h) (ht : h.tag = 0) : bg fid G w (.map l) (.map (some h.b))
 | fn (i : Nat) (fs cs : List V) (xs cN : List Value) (ae : a6 fid G w fs xs) (hc : a6 fid G w cs cN) : bg fid G w (.fn i fs cs) (.func (.func i) ⟨xs⟩ ⟨cN⟩)
 | yield (l : Nat) (h : Home) (hb : G.β l = some h) (ht : h.tag = 0) : bg fid G w (.yield l) (.func (.yield h.b) #[] #[])
 | agg (vs : List V) (vals : List Value) (hr : a6 fid G w vs vals) : bg fid G w (.agg vs) (.agg ⟨vals⟩)
 | ba (vs : List V) (vals : List Value) (hr : a6 fid G w vs vals) : bg fid G w (.ba vs) (.tuple ⟨vals⟩)
 | iface (t : Nat) (v : V) (x : Value) (hr : bg fid G w v x) : bg fid G w (.iface t v) (.iface t x)
 | undef (x : Value) : bg fid G w .undef x
inductive a6 (fid : Nat -> Nat) (G : bT) (w : World) : List V -> List Value -> Prop
 | nil : a6 fid G w [] []
 | cons (v : V) (x : Value) (vs : List V) (xs : List Value) (h : bg fid G w v x) (hs : a6 fid G w vs xs) : a6 fid G w (v :: vs) (x :: xs)
end
end
variable {fid : Nat -> Nat} {w w' : World} {G G' : bT} {I qd : Nat -> Prop}
theorem Qq {b : Nat} (h : w'.heap[b]? = w.heap[b]?) (o : Nat) : w'.cell? ⟨b, o, none⟩ = w.cell? ⟨b, o, none⟩ := by
 simp [World.cell?, h]
theorem asJ.ei {b o : Nat} {vals : List Value} (h : asJ w b o vals) (hb : w'.heap[b]? = w.heap[b]?) : asJ w' b o vals :=
 fun j x hx => by rw [Qq hb]; exact h j x hx
mutual
theorem fE.mono (aZ : ∀ b, I b -> qd b /\ w'.heap[b]? = w.heap[b]?) : ∀ {v : V} {x : Value}, fE w I v x -> fE w' qd v x
 | _, _, .bool b => .bool b
 | _, _, .int k n => .int k n
 | _, _, .str s => .str s
 | _, _, .c0 => .c0
 | _, _, .emp a => .emp a
 | _, _, .tB es a cap => .tB es a cap
 | _, _, .list es ds b o cap vals h hc hu hr hl => .list es ds b o cap vals (aZ b h).1 (hc.ei (aZ b h).2) hu (c6.mono aZ hr) hl
 | _, _, .iM => .iM
 | _, _, .hU => .hU
 | _, _, .jB => .jB
 | _, _, .iN => .iN
 | _, _, .agg vs vals hr => .agg vs vals (c6.mono aZ hr)
 | _, _, .ba vs vals hr => .ba vs vals (c6.mono aZ hr)
 | _, _, .iface t v x hr => .iface t v x (fE.mono aZ hr)
 | _, _, .fn i fs cs xs cN ae hc => .fn i fs cs xs cN (c6.mono aZ ae) (c6.mono aZ hc)
theorem c6.mono (aZ : ∀ b, I b -> qd b /\ w'.heap[b]? = w.heap[b]?) : ∀ {vs : List V} {xs : List Value}, c6 w I vs xs -> c6 w' qd vs xs
 | _, _, .nil => .nil
 | _, _, .cons v x vs xs h hs => .cons v x vs xs (fE.mono aZ h) (c6.mono aZ hs)
end
def k9 (β ZO : Nat -> Option Home) : Prop :=
 ∀ l h, β l = some h -> ∃ h', ZO l = some h' /\ h.tag <= h'.tag /\ (h.tag = 0 -> h'.tag = 0) /\ (h'.tag = h.tag -> h'.b = h.b /\ h'.ff = h.ff) /\ (h.dW = true -> h' = h)
theorem k9.refl (β : Nat -> Option Home) : k9 β β := fun _ h hb => ⟨h, hb, aK _, id, fun _ => ⟨rfl, rfl⟩, fun _ => rfl⟩
theorem k9.trans {a b c : Nat -> Option Home} (h : k9 a b) (k : k9 b c) : k9 a c := by
 intro l h₀ hb
 obtain ⟨h₁, ZP, ZQ, ZR, m₁, ZS⟩ := h l h₀ hb
 obtain ⟨h₂, Ke, ZT, ZU, m₂, ZV⟩ := k l h₁ ZP
 refine ⟨h₂, Ke, c4 ZQ ZT, fun z => ZU (ZR z), fun ht => ?_, fun f => ?_⟩
 · have e : h₁.tag = h₀.tag := by omega
   have e' : h₂.tag = h₁.tag := by omega
   exact ⟨(m₂ e').1.trans (m₁ e).1, (m₂ e').2.trans (m₁ e).2⟩
 · have := ZS f; subst this; exact ZV f
mutual
theorem bg.mono (eZ : k9 G.β G'.β) (aZ : ∀ b, G.I b -> G'.I b /\ w'.heap[b]? = w.heap[b]?) : ∀ {v : V} {x : Value}, bg fid G w v x -> bg fid G' w' v x
 | _, _, .p v x h => .p v x (fE.mono aZ h)
 | _, _, .ptr l o h hb ht => by
   obtain ⟨h', e, -, z, m, -⟩ := eZ l h hb
   have := (m ((z ht).trans ht.symm)).1
   rw [<- this]; exact .ptr l o h' e (z ht)
 | _, _, .gw l es i f tag h a hb hle ao => by
   obtain ⟨h', e, t, z, m, -⟩ := eZ l h hb
   refine .gw l es i f tag h' a e (c4 hle t) (fun hx => ?_)
   have ht : h'.tag = h.tag := by omega
   rw [(m ht).1]; exact ao (by omega)
 | _, _, .dB vs f b o vals h hc hr => .dB vs f b o vals (aZ b h).1 (hc.ei (aZ b h).2) (c6.mono aZ hr)
 | _, _, .cQ l es off len tag h a n cap hb hle ao => by
   obtain ⟨h', e, t, z, m, -⟩ := eZ l h hb
   refine .cQ l es off len tag h' a n cap e (c4 hle t) (fun hx => ?_)
   have ht : h'.tag = h.tag := by omega
   rw [(m ht).1, (m ht).2]; exact ao (by omega)
 | _, _, .map l h hb ht => by
   obtain ⟨h', e, -, z, m, -⟩ := eZ l h hb
   have := (m ((z ht).trans ht.symm)).1
   rw [<- this]; exact .map l h' e (z ht)
 | _, _, .fn i fs cs xs cN ae hc => .fn i fs cs xs cN (a6.mono eZ aZ ae) (a6.mono eZ aZ hc)
 | _, _, .yield l h hb ht => by
   obtain ⟨h', e, -, z, m, -⟩ := eZ l h hb
   have := (m ((z ht).trans ht.symm)).1
   rw [<- this]; exact .yield l h' e (z ht)
 | _, _, .agg vs vals hr => .agg vs vals (a6.mono eZ aZ hr)
 | _, _, .ba vs vals hr => .ba vs vals (a6.mono eZ aZ hr)
 | _, _, .iface t v x hr => .iface t v x (bg.mono eZ aZ hr)
 | _, _, .undef x => .undef x
theorem a6.mono (eZ : k9 G.β G'.β) (aZ : ∀ b, G.I b -> G'.I b /\ w'.heap[b]? = w.heap[b]?) : ∀ {vs : List V} {xs : List Value}, a6 fid G w vs xs -> a6 fid G' w' vs xs
 | _, _, .nil => .nil
 | _, _, .cons v x vs xs h hs => .cons v x vs xs (bg.mono eZ aZ h) (a6.mono eZ aZ hs)
end
mutual
theorem bg.restrict {n : Nat} (eZ : ∀ l h, l < n -> G.β l = some h -> ∃ h', G'.β l = some h' /\ h' = h) (aZ : ∀ b, G.I b -> G'.I b /\ w'.heap[b]? = w.heap[b]?) :
  ∀ {v : V} {x : Value}, bg fid G w v x -> old n v = true \/ (bO v = true) -> bg fid G' w' v x
 | _, _, .p v x h, _ => .p v x (fE.mono aZ h)
 | _, _, .ptr l o h hb ht, ho => by
   obtain ⟨h', e, rfl⟩ := eZ l h (by simpa [old, bO] using ho) hb
   exact .ptr l o _ e ht
 | _, _, .gw l es i f tag h a hb hle ao, ho => by
   obtain ⟨h', e, rfl⟩ := eZ l h (by simpa [old, bO] using ho) hb
   exact .gw l es i f tag _ a e hle ao
 | _, _, .dB vs f b o vals h hc hr, _ => .dB vs f b o vals (aZ b h).1 (hc.ei (aZ b h).2) (c6.mono aZ hr)
 | _, _, .cQ l es off len tag h a n cap hb hle ao, ho => by
   obtain ⟨h', e, rfl⟩ := eZ l h (by simpa [old, bO] using ho) hb
   exact .cQ l es off len tag _ a n cap e hle ao
 | _, _, .map l h hb ht, ho => by
   obtain ⟨h', e, rfl⟩ := eZ l h (by simpa [old, bO] using ho) hb
   exact .map l _ e ht
 | _, _, .fn i fs cs xs cN ae hc, ho => by
   simp only [old, bO, cd] at ho
   exact .fn i fs cs xs cN (a6.restrict eZ aZ ae (ho.imp And.left And.left)) (a6.restrict eZ aZ hc (ho.imp And.right And.right))
 | _, _, .yield l h hb ht, ho => by
   obtain ⟨h', e, rfl⟩ := eZ l h (by simpa [old, bO] using ho) hb
   exact .yield l _ e ht
 | _, _, .agg vs vals hr, ho => .agg vs vals (a6.restrict eZ aZ hr (by simpa [old, bO] using ho))
 | _, _, .ba vs vals hr, ho => .ba vs vals (a6.restrict eZ aZ hr (by simpa [old, bO] using ho))
 | _, _, .iface t v x hr, ho => .iface t v x (bg.restrict eZ aZ hr (by simpa [old, bO] using ho))
 | _, _, .undef x, _ => .undef x
theorem a6.restrict {n : Nat} (eZ : ∀ l h, l < n -> G.β l = some h -> ∃ h', G'.β l = some h' /\ h' = h) (aZ : ∀ b, G.I b -> G'.I b /\ w'.heap[b]? = w.heap[b]?) :
  ∀ {vs : List V} {xs : List Value}, a6 fid G w vs xs -> fc n vs = true \/ ct vs = true -> a6 fid G' w' vs xs
 | _, _, .nil, _ => .nil
 | _, _, .cons v x vs xs h hs, ho => by
   have h1 : old n v = true \/ bO v = true := by rcases ho with ho | ho <;> simp_all [fc, ct]
   have h2 : fc n vs = true \/ ct vs = true := by rcases ho with ho | ho <;> simp_all [fc, ct]
   exact .cons v x vs xs (bg.restrict eZ aZ h h1) (a6.restrict eZ aZ hs h2)
end
mutual
theorem bg.o5 : ∀ {v : V} {x : Value}, bg fid G w v x -> bO v = true -> fE w G.I v x
 | _, _, .p v x h, _ => h
 | _, _, .agg vs vals hr, ho => .agg vs vals (a6.o5 hr (by simpa [bO] using ho))
 | _, _, .ba vs vals hr, ho => .ba vs vals (a6.o5 hr (by simpa [bO] using ho))
 | _, _, .iface t v x hr, ho => .iface t v x (bg.o5 hr (by simpa [bO] using ho))
 | _, _, .fn i fs cs xs cN ae hc, ho => by
   simp only [bO, cd] at ho
   exact .fn i fs cs xs cN (a6.o5 ae ho.1) (a6.o5 hc ho.2)
 | _, _, .ptr .., ho | _, _, .gw .., ho | _, _, .dB .., ho | _, _, .cQ .., ho | _, _, .map .., ho | _, _, .yield .., ho | _, _, .undef .., ho => by simp [bO] at ho
theorem a6.o5 : ∀ {vs : List V} {xs : List Value}, a6 fid G w vs xs -> ct vs = true -> c6 w G.I vs xs
 | _, _, .nil, _ => .nil
 | _, _, .cons v x vs xs h hs, ho => by
   simp only [ct, cd] at ho
   exact .cons v x vs xs (bg.o5 h ho.1) (a6.o5 hs ho.2)
end
theorem c6.od : ∀ {vs : List V} {xs : List Value}, c6 w G.I vs xs -> a6 fid G w vs xs
 | _, _, .nil => .nil
 | _, _, .cons v x vs xs h hs => .cons v x vs xs (.p v x h) (c6.od hs)
mutual
theorem fE.flat : ∀ {v : V} {x : Value}, fE w I v x -> Abs.flat v = true -> fE w' qd v x
 | _, _, .bool b, _ => .bool b
 | _, _, .int k n, _ => .int k n
 | _, _, .str s, _ => .str s
 | _, _, .c0, _ => .c0
 | _, _, .emp a, _ => .emp a
 | _, _, .iM, _ => .iM
 | _, _, .hU, _ => .hU
 | _, _, .jB, _ => .jB
 | _, _, .iN, _ => .iN
 | _, _, .agg vs vals hr, h => .agg vs vals (c6.flat hr (by simpa [Abs.flat] using h))
 | _, _, .ba vs vals hr, h => .ba vs vals (c6.flat hr (by simpa [Abs.flat] using h))
 | _, _, .tB .., h | _, _, .list .., h | _, _, .iface .., h | _, _, .fn .., h => by simp [Abs.flat] at h
theorem c6.flat : ∀ {vs : List V} {xs : List Value}, c6 w I vs xs -> tq vs = true -> c6 w' qd vs xs
 | _, _, .nil, _ => .nil
 | _, _, .cons v x vs xs h hs, ho => by
   simp only [tq, cd] at ho
   exact .cons v x vs xs (fE.flat h ho.1) (c6.flat hs ho.2)
end
mutual
theorem Qr : ∀ {v : V}, Abs.flat v = true -> bO v = true
 | .bool _, _ | .int _ _, _ | .str _, _ | .c0, _ | .emp, _ | .iM, _ | .hU, _ | .jB, _ | .iN, _ => rfl
 | .agg vs, h => by simp only [bO]; exact Kf (by simpa [Abs.flat] using h)
 | .ba vs, h => by simp only [bO]; exact Kf (by simpa [Abs.flat] using h)
 | .list .., h | .ptr .., h | .gw .., h | .dB .., h | .cQ .., h | .map .., h | .fn .., h | .yield .., h | .iface .., h | .undef, h => by simp [Abs.flat] at h
theorem Kf : ∀ {vs : List V}, tq vs = true -> ct vs = true
 | [], _ => rfl
 | v :: vs, h => by
   simp only [tq, cd] at h
   simp only [ct, cd]
   exact ⟨Qr h.1, Kf h.2⟩
end
theorem bg.flat {v : V} {x : Value} (h : bg fid G w v x) (ae : Abs.flat v = true) : bg fid G' w' v x := .p _ _ ((h.o5 (Qr ae)).flat ae)
theorem a6.length : ∀ {vs : List V} {xs : List Value}, a6 fid G w vs xs -> xs.length = vs.length
 | _, _, .nil => rfl
 | _, _, .cons _ _ _ _ _ hs => by simp [a6.length hs]
theorem a6.get : ∀ {vs : List V} {xs : List Value}, a6 fid G w vs xs -> ∀ {i : Nat} {v : V}, vs[i]? = some v -> ∃ x, xs[i]? = some x /\ bg fid G w v x
 | _, _, .nil, i, v, h => by simp at h
 | _, _, .cons v x vs xs h hs, 0, u, e => by simp at e; subst e; exact ⟨x, by simp, h⟩
 | _, _, .cons v x vs xs h hs, i + 1, u, e => by simpa using a6.get hs (by simpa using e)
theorem a6.append : ∀ {vs us : List V} {xs cN : List Value}, a6 fid G w vs xs -> a6 fid G w us cN -> a6 fid G w (vs ++ us) (xs ++ cN)
 | _, _, _, _, .nil, k => k
 | _, _, _, _, .cons v x vs xs h hs, k => .cons v x _ _ h (a6.append hs k)
theorem a6.split : ∀ {vs us : List V} {dc : List Value}, a6 fid G w (vs ++ us) dc -> ∃ xs cN, dc = xs ++ cN /\ a6 fid G w vs xs /\ a6 fid G w us cN
 | [], us, dc, h => ⟨[], dc, rfl, .nil, h⟩
 | v :: vs, us, _, .cons _ x _ xs h hs => by
   obtain ⟨aY, aL, rfl, h1, h2⟩ := a6.split (vs := vs) hs
   exact ⟨x :: aY, aL, rfl, .cons v x vs aY h h1, h2⟩
theorem a6.set : ∀ {vs : List V} {xs : List Value}, a6 fid G w vs xs -> ∀ (i : Nat) {v : V} {x : Value}, bg fid G w v x -> a6 fid G w (vs.set i v) (xs.set i x)
 | _, _, .nil, _, _, _, _ => .nil
 | _, _, .cons v x vs xs h hs, 0, u, y, k => .cons u y vs xs k hs
 | _, _, .cons v x vs xs h hs, i + 1, u, y, k => .cons v x _ _ h (a6.set hs i k)
theorem a6.drop : ∀ {vs : List V} {xs : List Value}, a6 fid G w vs xs -> ∀ (n : Nat), a6 fid G w (vs.drop n) (xs.drop n)
 | _, _, h, 0 => by simpa using h
 | _, _, .nil, n + 1 => .nil
 | _, _, .cons v x vs xs h hs, n + 1 => by simpa using a6.drop hs n
theorem a6.take : ∀ {vs : List V} {xs : List Value}, a6 fid G w vs xs -> ∀ (n : Nat), a6 fid G w (vs.take n) (xs.take n)
 | _, _, h, 0 => by simpa using a6.nil
 | _, _, .nil, n + 1 => .nil
 | _, _, .cons v x vs xs h hs, n + 1 => .cons v x _ _ h (a6.take hs n)
theorem a6.ZW {vs : List V} {xs : List Value} (hl : xs.length = vs.length) (h : ∀ (i : Nat) v x, vs[i]? = some v -> xs[i]? = some x -> bg fid G w v x) : a6 fid G w vs xs := by
 induction vs generalizing xs with
 | nil => cases xs with
   | nil => exact .nil
   | cons => simp at hl
 | cons v vs ih => cases xs with
   | nil => simp at hl
   | cons x xs => exact .cons v x vs xs (h 0 v x rfl rfl) (ih (by simpa using hl) (fun i v x a b => h (i + 1) v x (by simpa using a) (by simpa using b)))
theorem c6.drop : ∀ {vs : List V} {xs : List Value}, c6 w I vs xs -> ∀ (n : Nat), c6 w I (vs.drop n) (xs.drop n)
 | _, _, h, 0 => by simpa using h
 | _, _, .nil, n + 1 => .nil
 | _, _, .cons _ _ _ _ _ hs, n + 1 => by simpa using c6.drop hs n
theorem c6.take : ∀ {vs : List V} {xs : List Value}, c6 w I vs xs -> ∀ (n : Nat), c6 w I (vs.take n) (xs.take n)
 | _, _, _, 0 => by simpa using c6.nil
 | _, _, .nil, n + 1 => .nil
 | _, _, .cons v x _ _ h hs, n + 1 => .cons v x _ _ h (c6.take hs n)
theorem c6.length {vs : List V} {xs : List Value} (h : c6 w I vs xs) : xs.length = vs.length := a6.length (fid := id) (G := ⟨fun _ => none, I⟩) (c6.od h)
def Kg : X -> Option Code -> Prop
 | .normal, none => True
 | .exit id, some (.exit sc) => sc = id
 | .ret, some .ret => True
 | _, _ => False
def nx (es : Array MapEntry) (bE : Nat) : Prop := (∀ x ∈ es.toList, x.born < bE) /\ (es.toList.map (·.born)).Nodup
def iT (C : Ctx) (fid : Nat -> Nat) (G : bT) (w : World) (h : Home) : cE -> Prop
 | .cells vs => h.tag = 0 /\ h.dW = false /\ ∃ c e, w.heap[h.b]? = some (.cells c e (0, 0)) /\ a6 fid G w vs c.toList
 | .row es ds dW => h.tag = ds.length /\ 0 < ds.length /\ h.dW = dW /\ 0 < es /\ (∀ d ∈ ds, (aG d).length = es) /\
  ∃ c e vals rest, w.heap[h.b]? = some (.cells c e (0, 0)) /\ h.ff = c.size /\ c.toList = vals ++ rest /\ a6 fid G w (ds.flatMap aG) vals
 | .map bk => h.tag = 0 /\ h.dW = false /\ ∃ es bE, w.heap[h.b]? = some (.map es bE) /\
  a6 fid G w (bk.map (·.1)) (es.toList.map (·.key)) /\ a6 fid G w (bk.map (·.2)) (es.toList.map (·.val)) /\ nx es bE
 | .loop st sa env params assign body => h.tag = 0 /\ h.dW = false /\ ∃ L vars, w.heap[h.b]? = some (.loop L) /\ L.state = st /\ Kg sa L.pending /\
  L.params.toList = params /\ (∀ t ∈ params, t ∈ vars /\ t < L.tmps.size) /\
  C.code vars L.tmps.size L.assign = some assign /\ C.code vars L.tmps.size L.body = some body /\ ∀ t ∈ vars, bg fid G w (bJ env t) (L.tmps.getD t undef)
 | .gone => h.tag = 0 /\ h.dW = false
structure bb (C : Ctx) (fid : Nat -> Nat) (G : bT) (H : Heap) (w : World) : Prop where
 obj : ∀ l h, G.β l = some h -> ∃ o, H[l]? = some o /\ iT C fid G w h o
 inj : ∀ l fp h h', G.β l = some h -> G.β fp = some h' -> h.b = h'.b -> l = fp
 blk : ∀ l h, G.β l = some h -> h.b < w.heap.size
 cX : ∀ b, G.I b -> b < w.heap.size /\ ∀ l h, G.β l = some h -> h.b = b -> h.dW = true
 jY : ∀ l h, G.β l = some h -> h.dW = true -> G.I h.b
 e6 : ∀ b o, C.e6 b = some o -> G.I b /\ w.heap[b]? = some o
structure Ext (G : bT) (w : World) (G' : bT) (w' : World) (m n : Nat) : Prop where
 size : w.heap.size <= w'.heap.size
 os : w'.os = w.os
 output : w'.output = w.output
 ei : ∀ b, b < w.heap.size -> (∀ l h, G.β l = some h -> h.b = b -> h.dW = true \/ l < m) -> w'.heap[b]? = w.heap[b]?
 homes : k9 G.β G'.β
 mI : ∀ l h', G'.β l = some h' -> (∃ h, G.β l = some h /\ (h.b = h'.b \/ w.heap.size <= h'.b)) \/ (n <= l /\ w.heap.size <= h'.b)
 cX : ∀ b, G.I b -> G'.I b
 ny : ∀ b, G'.I b -> G.I b \/ w.heap.size <= b \/ ∃ l h, G.β l = some h /\ h.b = b
theorem Ext.Kh {m n : Nat} (h : Ext G w G' w' m n) (l : Nat) (h' : Home) (e : G'.β l = some h') : (∃ h, G.β l = some h /\ h.b = h'.b) \/ w.heap.size <= h'.b := by
 rcases h.mI l h' e with ⟨h0, ez, q | q⟩ | ⟨_, q⟩
 · exact .inl ⟨h0, ez, q⟩
 · exact .inr q
 · exact .inr q
theorem Ext.refl (G : bT) (w : World) (m n : Nat) : Ext G w G w m n :=
 ⟨aK _, rfl, rfl, fun _ _ _ => rfl, .refl _, fun _ h hb => .inl ⟨h, hb, .inl rfl⟩, fun _ h => h, fun _ h => .inl h⟩
theorem Ext.le {m m' n Qs : Nat} (h : Ext G w G' w' m n) (hm : m' <= m) (hn : Qs <= n) : Ext G w G' w' m' Qs :=
 { h with ei := fun b hb k => h.ei b hb fun l x ah e2 => (k l x ah e2).imp id fun q => pY q hm
          mI := fun l h' e => (h.mI l h' e).imp id fun q => ⟨c4 hn q.1, q.2⟩ }
theorem Ext.trans {Qt : bT} {gY : World} {m n : Nat} (h : Ext G w G' w' m n) (k : Ext G' w' Qt gY m n) : Ext G w Qt gY m n where
 size := c4 h.size k.size
 os := k.os.trans h.os
 output := k.output.trans h.output
 ei b hb ai := by
  rw [k.ei b (pY hb h.size) ?_, h.ei b hb ai]
  intro l h1 ah e2
  rcases h.Kh l h1 ah with ⟨h0, ez, eb⟩ | hn
  · rcases ai l h0 ez (eb.trans e2) with ae | hl
    · obtain ⟨h', e', -, -, -, k7⟩ := h.homes l h0 ez
      rw [ah] at e'; cases e'
      rw [k7 ae]; exact .inl ae
    · exact .inr hl
  · omega
 homes := h.homes.trans k.homes
 mI l h2 e := by
  have hs := h.size
  rcases k.mI l h2 e with ⟨h1, ah, eb⟩ | ⟨hn, hb⟩
  · rcases h.mI l h1 ah with ⟨h0, ez, zB⟩ | ⟨hn, hb⟩
    · refine .inl ⟨h0, ez, ?_⟩
      rcases eb with eb | eb <;> rcases zB with zB | zB
      · exact .inl (zB.trans eb)
      · exact .inr (by omega)
      · exact .inr (by omega)
      · exact .inr (by omega)
    · exact .inr ⟨hn, by rcases eb with eb | eb <;> omega⟩
  · exact .inr ⟨hn, by omega⟩
 cX b hb := k.cX b (h.cX b hb)
 ny b hb := by
  rcases k.ny b hb with h1 | h1 | ⟨l, h1, ah, eb⟩
  · exact h.ny b h1
  · exact .inr (.inl (c4 h.size h1))
  · rcases h.Kh l h1 ah with ⟨h0, ez, zB⟩ | hn
    · exact .inr (.inr ⟨l, h0, ez, zB.trans eb⟩)
    · exact .inr (.inl (by omega))
theorem bb.Qu {C : Ctx} {H : Heap} {m n : Nat} (aa : bb C fid G H w) (h : Ext G w G' w' m n) : ∀ b, G.I b -> G'.I b /\ w'.heap[b]? = w.heap[b]? := fun b hb =>
 ⟨h.cX b hb, h.ei b (aa.cX b hb).1 fun l x ah e2 => .inl ((aa.cX b hb).2 l x ah e2)⟩
theorem bg.ext {C : Ctx} {H : Heap} {m n : Nat} (aa : bb C fid G H w) (h : Ext G w G' w' m n) {v : V} {x : Value} (k : bg fid G w v x) : bg fid G' w' v x :=
 k.mono h.homes (aa.Qu h)
theorem a6.ext {C : Ctx} {H : Heap} {m n : Nat} (aa : bb C fid G H w) (h : Ext G w G' w' m n) {v : List V} {x : List Value} (k : a6 fid G w v x) : a6 fid G' w' v x :=
 k.mono h.homes (aa.Qu h)
theorem iT.mono {C : Ctx} (eZ : k9 G.β G'.β) (aZ : ∀ b, G.I b -> G'.I b /\ w'.heap[b]? = w.heap[b]?) {h : Home} (hb : w'.heap[h.b]? = w.heap[h.b]?) : ∀ {o : cE}, iT C fid G w h o -> iT C fid G' w' h o
 | .cells vs, ⟨a, b, c, e, hc, hr⟩ => ⟨a, b, c, e, by rw [hb]; exact hc, hr.mono eZ aZ⟩
 | .row es ds dW, ⟨a, b, c, d, u, Qv, e, vals, rest, hc, hs, hl, hr⟩ => ⟨a, b, c, d, u, Qv, e, vals, rest, by rw [hb]; exact hc, hs, hl, hr.mono eZ aZ⟩
 | .map bk, ⟨a, b, es, bE, hc, ai, af, hs⟩ => ⟨a, b, es, bE, by rw [hb]; exact hc, ai.mono eZ aZ, af.mono eZ aZ, hs⟩
 | .loop .., ⟨a, b, L, vars, hc, hs, hp, tC, hin, ao, ZX, he⟩ => ⟨a, b, L, vars, by rw [hb]; exact hc, hs, hp, tC, hin, ao, ZX, fun t ht => (he t ht).mono eZ aZ⟩
 | .gone, h => h
end Go.Abs
