/- Texts of this claim, joined and written short by a program. -/
import Derived.Test.YtjgngmpmjbkbpaaGreatDoorP40
import Derived.Test.YtjgngmpmjbkbpaaGreatDoorP16
import Derived.Test.YtjgngmpmjbkbpaaGreatDoorP23
import Derived.Test.YtjgngmpmjbkbpaaGreatDoorP39
import Derived.Test.YtjgngmpmjbkbpaaGreatDoorP35
import Derived.Test.YtjgngmpmjbkbpaaGreatDoorP29
import Derived.Test.YtjgngmpmjbkbpaaGreatDoorP00
set_option linter.unusedVariables false
set_option linter.unusedSimpArgs false
set_option linter.unusedSectionVars false
namespace Go.Abs.U
open Go Go.Abs Go.Abs.Lex
noncomputable section
variable {ad : Nat -> Option ca}
attribute [local simp] jl iP jD mH oc qa qc qb nw c9 gP qv oD mn pt qx sE rq qw nb rp vW aj.ag bJ fM au.put dY o4 o3 fe gl eg bO ct hZ lP finish old fc flat lZ tk jk hJ aG S.R S.q S.k S.rt S.iD S.cj S.e S.r S.o S.n S.rg S.m S.b2 S.ls S.di S.eq S.ne S.lt S.gt S.df S.no S.jr S.st S.gI S.ia S.kr S.ex S.c S.cs S.jM S.kq S.z S.fn S.iU
theorem aDB : M3 = .block 1 (.seq Jx (.seq JT (.seq JU (.seq (.block 2 yp) DD)))) := rfl
def zg (s : List UInt8) (fa : Nat) : List V := [.int .i64 (hO (s.drop (dr s fa))), .int .i64 fa, .int .i64 (dr s fa), .int .i64 (gz s fa)]
set_option maxHeartbeats 2000000 in
theorem am7 (T : mB ad) {s : List UInt8} {H H2 : Heap} {p1 p2 m L fa dv m0 : Nat} {b : Bool} (hl : s.length < 4611686018427387904) (hB : fa <= s.length) (g1 : H[p1]? = some (.cells [.str s])) (g2 : H[p2]? = some (.cells [.map m])) (Jq : H[m]? = some (.map va))
  {st : au} (h1 : st.H = H) (h2 : m0 <= st.low) (vB : st.low <= H.length) (oz : bJ st.aw 0 = .yield L) (b2 : bJ st.aw 1 = .ptr p1 0) (jZ : bJ st.aw 2 = .ptr p2 0) (Jt : bJ st.aw 4 = .int .i64 fa)
  (hy : cK ad (.yield L) [.agg (zg s fa)] (H ++ [.cells (zg s fa)]) = some (.bool b, H2, dv)) (xy : dv <= H.length) (fB : m0 <= dv) (asy : m0 <= H2.length) (F1 : b = true -> H2[H.length]? = some (.cells (zg s fa))) :
  ∃ x aU, dO ad M3 st = some (x, aU) /\ x = (if b && decide (hO (s.drop (dr s fa)) ≠ 0) then .normal else .ret) /\ aU.H = H2 /\ m0 <= aU.low /\ aU.low <= dv /\ bJ aU.aw 4 = .int .i64 (gz s fa) /\ ∀ t, t < 4 -> bJ aU.aw t = bJ st.aw t := by
 have am8 := fun t => E1 g1 t
 have Pf := fun t => E1 g2 t
 have Pg := fun t => E1 Jq t
 obtain ⟨lo, hK⟩ : ∃ lo, st.low = lo := ⟨_, rfl⟩
 rw [hK] at h2 vB
 have nJ : min lo H.length = lo := nv vB
 have mR : min lo (H.length + 1) = lo := nv (by omega)
 have E2 := amT T (s := s.drop fa) (H := H) (by rw [oW]; omega)
 unfold aV at E2
 have am9 := MB hB
 have asz := MC hB
 have ana : IntKind.i64.wrap ((fa : Int) + (gy false (s.drop fa) : Int)) = (dr s fa : Int) := by
  have e : (fa : Int) + (gy false (s.drop fa) : Int) = (dr s fa : Int) := by unfold dr; omega
  rw [e, wrap_small] <;> omega
 have uw : IntKind.i64.wrap ((dr s fa : Int) + (ka (s.drop (dr s fa)) : Int)) = (gz s fa : Int) := by
  have e : (dr s fa : Int) + (ka (s.drop (dr s fa)) : Int) = (gz s fa : Int) := by unfold gz; omega
  rw [e, wrap_small] <;> omega
 have A : ∃ bW, dO ad Jx st = some (.normal, bW) /\ bW.H = H ++ [.cells [.int .i64 0, .int .i64 fa, .int .i64 (dr s fa), .int .i64 0]] /\ bW.low = lo /\ bJ bW.aw 5 = .ptr H.length 0 /\ ∀ t, t < 5 -> bJ bW.aw t = bJ st.aw t := by
  refine ⟨_, by simp [Jx, h1, hK, Jt, b2, g1, Bq, eG, hB, E2, ana, step, tu, setCells, b4, eP, lB, iO, nJ, mR]; rfl, ?_⟩
  simp only [fM, h1]
  exact ⟨by simp [setCells, aj.ag, bJ, aG], by first | (simp [nJ, mR]; done) | (simp; omega), by simp, fun t ht => by simp [show t ≠ 5 by omega]⟩
 obtain ⟨bW, al, a2, a3, a4, a5⟩ := A
 have B : ∃ gi, dO ad JT bW = some (.normal, gi) /\ gi.H = bW.H /\ gi.low = lo /\ bJ gi.aw 6 = .str (s.drop (dr s fa)) /\ ∀ t, t < 6 -> bJ gi.aw t = bJ bW.aw t := by
  have ec : bJ bW.aw 1 = .ptr p1 0 := (a5 1 (by decide)).trans b2
  refine ⟨_, by simp [JT, a2, a3, a4, ec, am8, nc, Bq, eG, am9, nJ, mR]; rfl, ?_⟩
  simp only [fM, a2]
  exact ⟨by simp, by first | (simp [nJ, mR]; done) | (simp; omega), by simp, fun t ht => by simp [show t ≠ 6 by omega]⟩
 obtain ⟨gi, ec, gJ, ju, lb, tD⟩ := B
 have anb : ∃ kO, dO ad JU gi = some (.normal, kO) /\ kO.H = bW.H /\ kO.low = lo /\ bJ kO.aw 7 = .int .i64 0 /\ ∀ t, t < 7 -> bJ kO.aw t = bJ gi.aw t := by
  refine ⟨_, by simp [JU, gJ, ju, a2, nJ, mR]; rfl, ?_⟩
  simp only [fM, a2, gJ]
  exact ⟨by simp, by first | (simp [nJ, mR]; done) | (simp; omega), by simp, fun t ht => by simp [show t ≠ 7 by omega]⟩
 obtain ⟨kO, dL, e7, gE, jG, iX⟩ := anb
 obtain ⟨E3, d1, d3, d4, d5, d6⟩ := am5 T (s := s.drop (dr s fa)) (H := H) (lo := lo) (by rw [oW]; omega) vB g2 Jq (st := kO) (e7.trans a2) gE
  (by rw [iX 2 (by decide), tD 2 (by decide), a5 2 (by decide)]; exact jZ) (by rw [iX 5 (by decide), tD 5 (by decide)]; exact a4) (by rw [iX 6 (by decide)]; exact lb) jG
 have ei : ∀ t, t < 5 -> bJ E3.aw t = bJ st.aw t := fun t ht => by rw [d6 t (by omega), iX t (by omega), tD t (by omega), a5 t ht]
 have Bh : bJ E3.aw 5 = .ptr H.length 0 := by rw [d6 5 (by decide), iX 5 (by decide), tD 5 (by decide)]; exact a4
 have k0 : bJ E3.aw 0 = .yield L := (ei 0 (by decide)).trans oz
 have uS : ∀ t : Heap, ¬ H.length + 1 <= dv := fun _ => by omega
 have zG := uS []
 have qt : m0 <= H.length := by omega
 have E : ∃ x wR, dO ad DD E3 = some (x, wR) /\ x = (if b && decide (hO (s.drop (dr s fa)) ≠ 0) then .normal else .ret) /\ wR.H = H2 /\ m0 <= wR.low /\ wR.low <= dv /\ bJ wR.aw 4 = .int .i64 (gz s fa) /\ ∀ t, t < 4 -> bJ wR.aw t = bJ E3.aw t := by
  unfold zg at hy F1
  generalize ow : hO (s.drop (dr s fa)) = K at *
  cases b with
  | false =>
    refine ⟨.ret, _, by simp [DD, d3, d4, d5, Bh, k0, nc, lB, iO, b4, eP, setCells, uw, hy, zG, nJ, mR]; rfl, rfl, rfl, ?_⟩
    exact ⟨by simp; omega, by simp; omega, by simp [fM], fun t ht => by simp [fM, show t ≠ 92 by omega, show t ≠ 4 by omega]⟩
  | true =>
    have Ju := F1 rfl
    have Yo : ∀ h : H.length < H2.length, H2[H.length]'h = .cells [.int .i64 K, .int .i64 fa, .int .i64 (dr s fa), .int .i64 (gz s fa)] := fun h => by rw [oV h] at Ju; exact Bz Ju
    by_cases aP : K = 0
    · have Pj : ((K : Int) == 0) = true := by simp [aP]
      refine ⟨.ret, _, by simp [DD, d3, d4, d5, Bh, k0, nc, lB, iO, b4, eP, setCells, uw, hy, zG, nJ, mR, Ju, Yo, Pj]; rfl, by simp [aP], rfl, ?_⟩
      exact ⟨by simp; omega, by simp; omega, by simp [fM], fun t ht => by simp [fM, show t ≠ 92 by omega, show t ≠ 4 by omega]⟩
    · have Pj : ((K : Int) == 0) = false := by simp; omega
      refine ⟨.normal, _, by simp [DD, d3, d4, d5, Bh, k0, nc, lB, iO, b4, eP, setCells, uw, hy, zG, nJ, mR, Ju, Yo, Pj]; rfl, by simp [aP], rfl, ?_⟩
      exact ⟨by simp; omega, by simp; omega, by simp [fM], fun t ht => by simp [fM, show t ≠ 92 by omega, show t ≠ 4 by omega]⟩
 obtain ⟨x, wR, ah, e2, b5, cU, anc, ej, jH⟩ := E
 have hx : x = .normal \/ x = .ret := by rw [e2]; split <;> simp
 refine ⟨x, wR, ?_, e2, b5, cU, anc, ej, fun t ht => (jH t ht).trans (ei t (by omega))⟩
 rw [aDB, nw, jD, al]
 simp only []
 rw [jD, ec]
 simp only []
 rw [jD, dL]
 simp only []
 rw [jD, nw, d1]
 simp only []
 rw [ah]
 rcases hx with rfl | rfl <;> rfl
end
end Go.Abs.U
namespace Go.Abs.U
open Go Go.Abs Go.Abs.Lex
noncomputable section
variable {ad : Nat -> Option ca}
attribute [local simp] jl iP jD mH oc qa qc qb nw c9 gP qv oD mn pt qx sE rq qw nb rp vW aj.ag bJ fR au.put dY o4 o3 fe gl eg bO ct hZ lP finish old fc flat lZ tk jk hJ aG S.R S.q S.k S.rt S.iD S.cj S.e S.r S.o S.n S.rg S.m S.b2 S.ls S.di S.eq S.ne S.lt S.gt S.df S.no S.jr S.st S.gI S.ia S.kr S.ex S.c S.cs S.jM S.kq S.z S.fn S.iU
theorem mC (H l : Heap) (k : Nat) : (H ++ l)[H.length + k]? = l[k]? := by rw [wW (by omega)]; simp
theorem s9 (H l : Heap) : (H ++ l)[H.length]? = l[0]? := mC H l 0
theorem wS (H l : Heap) (k : Nat) (x : cE) : (H ++ l).set (H.length + k) x = H ++ l.set k x := by rw [List.set_append_right _ _ (by omega)]; simp
theorem vc (H l : Heap) (x : cE) : (H ++ l).set H.length x = H ++ l.set 0 x := wS H l 0 x
def E4 (w : List UInt8) (n : Nat) : Env := [(0, .str w), (1, .ptr n 0), (2, .ptr (n + 1) 0), (10, .bool false), (12, .fn 314 [] [.ptr (n + 2) 0, .ptr (n + 4) 0])]
def ta (w : List UInt8) (n : Nat) : Heap := [.cells [.str w], .cells [.int .i64 0], .cells [.str w], .map va, .cells [.map (n + 3)], .loop .ready .normal (E4 w n) [13] HG HH]
set_option maxHeartbeats 1000000 in
theorem ane (T : mB ad) (w : List UInt8) (H : Heap) : ∃ H2 dv, cK ad (.yield (H.length + 5)) [.agg (zg w 0)] (H ++ (ta w H.length ++ [.cells (zg w 0)])) = some (.bool false, H2, dv) /\ H.length <= dv /\ dv <= H.length + 5 /\ H.length <= H2.length /\
  ((dr w 0 = 0 /\ gz w 0 = w.length /\ H2[H.length + 1]? = some (.cells [.int .i64 (hO (w.drop (dr w 0)))]) /\ ∃ e p a b, H2[H.length + 5]? = some (.loop .done .ret e p a b)) \/
   (¬ (dr w 0 = 0 /\ gz w 0 = w.length) /\ H2[H.length + 1]? = some (.cells [.int .i64 0]) /\ ∃ e p a b, H2[H.length + 5]? = some (.loop .done (.exit 0) e p a b))) := by
 rw [Zg]
 unfold zg
 generalize hO (w.drop (dr w 0)) = K
 by_cases h1 : dr w 0 = 0
 · have ah : ((dr w 0 : Int) != 0) = false := by simp [h1]
   by_cases h2 : gz w 0 = w.length
   · have e2 : ((gz w 0 : Int) != (w.length : Int)) = false := by simp [h2]
     refine ⟨_, _, by simp [ta, E4, n9, mC, s9, wS, vc, HG, HH, nc, rY, lB, iO, setCells, b4, eP, ah, e2, fJ]; exact ⟨rfl, rfl⟩, ?_⟩
     exact ⟨by simp <;> omega, by simp <;> omega, by simp <;> omega, .inl ⟨h1, h2, by simp [mC], _, _, _, _, by rw [mC]; rfl⟩⟩
   · have e2 : ((gz w 0 : Int) != (w.length : Int)) = true := by simp; omega
     refine ⟨_, _, by simp [ta, E4, n9, mC, s9, wS, vc, HG, HH, nc, rY, lB, iO, setCells, b4, eP, ah, e2, fJ]; exact ⟨rfl, rfl⟩, ?_⟩
     exact ⟨by simp <;> omega, by simp <;> omega, by simp <;> omega, .inr ⟨fun h => h2 h.2, by simp [mC], _, _, _, _, by rw [mC]; rfl⟩⟩
 · have ah : ((dr w 0 : Int) != 0) = true := by simp; omega
   refine ⟨_, _, by simp [ta, E4, n9, mC, s9, wS, vc, HG, HH, nc, rY, lB, iO, setCells, b4, eP, ah, fJ]; exact ⟨rfl, rfl⟩, ?_⟩
   exact ⟨by simp <;> omega, by simp <;> omega, by simp <;> omega, .inr ⟨fun h => h1 h.1, by simp [mC], _, _, _, _, by rw [mC]; rfl⟩⟩
set_option maxHeartbeats 1000000 in
theorem anf (T : mB ad) (w : List UInt8) (hl : w.length <= 4096) (H : Heap) : ∃ H2 dv, cK ad (.fn 314 [] [.ptr (H.length + 2) 0, .ptr (H.length + 4) 0]) [.yield (H.length + 5)] (H ++ ta w H.length) = some (.ba [], H2, dv) /\ H.length <= dv /\ H.length <= H2.length /\
  ((dr w 0 = 0 /\ gz w 0 = w.length /\ H2[H.length + 1]? = some (.cells [.int .i64 (hO (w.drop (dr w 0)))]) /\ ∃ e p a b, H2[H.length + 5]? = some (.loop .done .ret e p a b)) \/
   (¬ (dr w 0 = 0 /\ gz w 0 = w.length) /\ H2[H.length + 1]? = some (.cells [.int .i64 0]) /\ ∃ e p a b, H2[H.length + 5]? = some (.loop .done (.exit 0) e p a b))) := by
 obtain ⟨H2, dv, hy, ec, gJ, ju, lb⟩ := ane T w H
 rw [<- mb] at hy
 have hlen : (H ++ ta w H.length).length = H.length + 6 := by simp [ta]
 obtain ⟨x, aU, q1, aS, bZ, cR, e8, hC, nM⟩ := am7 T (s := w) (H := H ++ ta w H.length) (H2 := H2) (p1 := H.length + 2) (p2 := H.length + 4) (m := H.length + 3) (L := H.length + 5) (fa := 0) (dv := dv) (m0 := H.length) (b := false)
  (by omega) (cx _) (by rw [mC]; rfl) (by rw [mC]; rfl) (by rw [mC]; rfl)
  (st := { aE := [], aw := [(0, .yield (H.length + 5)), (1, .ptr (H.length + 2) 0), (2, .ptr (H.length + 4) 0), (4, .int .i64 0)], H := H ++ ta w H.length, low := H.length + 6 }) rfl (by simp) (by rw [hlen]; exact aK _) rfl rfl rfl rfl hy (by rw [hlen]; omega) ec ju (fun h => by cases h)
 simp only [BC] at aS
 subst aS
 have ix : ¬ H.length + 6 <= aU.low := by omega
 refine ⟨H2, aU.low, ?_, cR, ju, lb⟩
 rw [sf, T.aDx]
 simp [ayY, hlen, se M3, q1, bZ, ix]
set_option maxHeartbeats 1000000 in
theorem ang (T : mB ad) (w : List UInt8) (H : Heap) : aV ad (.fn 208 [] []) [.str w] H (.int .i64 (kindOf w)) := by
 unfold aV
 rw [sf, T.aDz]
 by_cases h0 : w = []
 · subst h0
   simp [HI, b4, eP, lB, iO, setCells, mC, s9, wS, vc, kindOf]
 · have ez : (w == []) = false := by cases w <;> simp_all
   by_cases h1 : 4096 < w.length
   · have ah : (4096 : Int) < (w.length : Int) := by omega
     simp [HI, b4, eP, lB, iO, setCells, mC, s9, wS, vc, kindOf, ez, h0, h1, ah, rY]
   · have ah : ¬ (4096 : Int) < (w.length : Int) := by omega
     have ht := am2 T w (H ++ [.cells [.str w], .cells [.int .i64 0]])
     simp only [kg, iv, qQ, eF, mb, oX, oZ, p4, Nat.reduceAdd] at ht
     obtain ⟨H2, dv, hc, ec, gJ, ju⟩ := anf T w (by omega) H
     simp only [ta, E4] at hc
     have Pk : min H.length dv = H.length := nv ec
     have anh : min H.length (min dv (min H2.length (H.length + 1))) = H.length := by omega
     rcases ju with ⟨dL, e7, gE, e, p, a, b, jG⟩ | ⟨dL, gE, e, p, a, b, jG⟩
     · have ai : kindOf w = hO (w.drop (dr w 0)) := by simp [kindOf, h0, h1, dL, e7]
       have iX : (H2.set (H.length + 5) .gone)[H.length + 1]? = some (.cells [.int .i64 (hO (w.drop (dr w 0)))]) := by rw [k4 (by omega)]; exact gE
       rw [ai]
       simp [HI, b4, eP, lB, iO, setCells, mC, s9, wS, vc, ez, h0, h1, ah, rY, ht, PY, BJ, zw, hc, jG, iX, fJ, Pk]
     · have ai : kindOf w = 0 := by simp [kindOf, h0, h1]; exact fun h1 h2 => absurd ⟨h1, h2⟩ dL
       have iX : (H2.set (H.length + 5) .gone)[H.length + 1]? = some (.cells [.int .i64 0]) := by rw [k4 (by omega)]; exact gE
       have Ef : ((H2.set (H.length + 5) .gone).set (H.length + 1) (.cells [.int .i64 0]))[H.length + 1]? = some (.cells [.int .i64 0]) := by rw [tc]; rw [zo]; rcases gg (H.length + 1) H2.length with h | h; exact h; rw [mF h] at gE; cases gE
       rw [ai]
       simp [HI, b4, eP, lB, iO, setCells, mC, s9, wS, vc, ez, h0, h1, ah, rY, ht, PY, BJ, zw, hc, jG, iX, Ef, fJ, anh]
end
end Go.Abs.U
namespace Go.Abs.U
open Go Go.Abs
noncomputable section
variable {ad : Nat -> Option ca}
def Jv : V -> Bool
 | .cQ .. => true
 | _ => false
section
variable {call : c3} {ag : aj -> V} {H : Heap} {low : Nat}
theorem Yp {x : aj} (h : Jv (ag x) = true) : b9 call ag H low (.len 1 x) = match ag x with
  | .cQ l es _ len tag => (match H[l]? with
    | some (.row bC ds _) => if bC = es /\ ds.length = tag then some (.int .i64 len, H, low) else none
    | _ => none)
  | _ => none := by
 show step ag H low (.len 1 x) = _
 cases hx : ag x <;> simp_all [Jv, step] <;> rfl
theorem Yq (es : Nat) (a b : aj) : b9 call ag H low (.copy es a b) = step ag H low (.copy es a b) := rfl
end
structure E5 (ad : Nat -> Option ca) : Prop where
 aDC : ad 300 = some (.code ayW)
 aDD : ad 374 = some (.code ayZ)
 aDE : ad 187 = some (.code ayU)
def u64 (n : Int) : V := .int .u64 n
theorem Pl {W : Nat} (h : W < 4294967296) : dY .and (u64 W) (u64 4294967295) = some (u64 W) := by
 have e : (BitVec.ofInt 64 (W : Int) &&& BitVec.ofInt 64 4294967295).toNat = W := by
  rw [BitVec.toNat_and]
  have h1 : (BitVec.ofInt 64 (W : Int)).toNat = W := by
   rw [BitVec.toNat_ofInt]; omega
  have h2 : (BitVec.ofInt 64 4294967295).toNat = 2 ^ 32 - 1 := by decide
  rw [h1, h2, Nat.and_two_pow_sub_one_eq_mod]
  omega
 have ez : dY .and (u64 W) (u64 4294967295) = some (.int .u64 (IntKind.u64.wrap ((BitVec.ofInt 64 (W : Int) &&& BitVec.ofInt 64 4294967295).toNat : Int))) := rfl
 rw [ez, e]
 have : IntKind.u64.wrap (W : Int) = W := by
  have ah : (2 ^ IntKind.u64.bits : Int) = 18446744073709551616 := rfl
  have s : IntKind.u64.signed = false := rfl
  simp only [IntKind.wrap, ah, s, BC]
  simp; omega
 rw [this]; rfl
theorem Jw {n : Int} (h1 : 0 <= n) (h2 : n < 18446744073709551616) : IntKind.u64.wrap n = n := by
 have ah : (2 ^ IntKind.u64.bits : Int) = 18446744073709551616 := rfl
 have s : IntKind.u64.signed = false := rfl
 simp only [IntKind.wrap, ah, s, BC]
 simp; omega
theorem Pm {W : Nat} (h : W < 4294967296) : dY .shr (u64 W) (u64 32) = some (u64 0) := by
 have : (W : Int) / 4294967296 = 0 := Int.ediv_eq_zero_of_lt (by omega) (by omega)
 simp [u64, dY, IntKind.bits, this]
theorem anl {W : Nat} (h : W < 4294967296) : dY .mul (u64 1) (u64 W) = some (u64 W) := by
 simp [u64, dY, Jw (n := (W : Int)) (by omega) (by omega)]
theorem anm {W : Nat} : dY .mul (u64 0) (u64 W) = some (u64 0) := by
 simp [u64, dY, Jw (n := 0) (by omega) (by omega)]
theorem ec : dY .and (u64 1) (u64 4294967295) = some (u64 1) := Pl (W := 1) (by decide)
theorem gJ : dY .shr (u64 1) (u64 32) = some (u64 0) := Pm (W := 1) (by decide)
theorem ju : dY .add (u64 0) (u64 0) = some (u64 0) := by kernel_rfl
theorem lb : dY .and (u64 0) (u64 4294967295) = some (u64 0) := Pl (W := 0) (by decide)
theorem tD : dY .shr (u64 0) (u64 32) = some (u64 0) := Pm (W := 0) (by decide)
theorem Yr : dY .mul (u64 1) (u64 0) = some (u64 0) := by kernel_rfl
theorem zc : dY .mul (u64 0) (u64 0) = some (u64 0) := by kernel_rfl
set_option maxHeartbeats 1000000 in
theorem ann (T : E5 ad) {W : Nat} (h : W < 4294967296) (H : Heap) : aV ad (.fn 374 [] []) [u64 1, u64 W] H (.ba [u64 0, u64 W]) := by
 unfold aV
 have c : ∀ n, V.int .u64 n = u64 n := fun _ => rfl
 have i1 : ∀ n, bO (u64 n) = true := fun _ => rfl
 rw [sf, T.aDD]
 simp [ayZ, eg, S.R, S.oE, S.q, S.k, S.rt, S.iD, S.cj, S.e, S.r, S.o, S.n, S.rg, S.m, S.b2, S.ls, S.di, S.eq, S.ne, S.lt, S.gt, S.df, S.no, S.jr, S.st, S.gI, S.ia, S.kr, S.ex, S.c, S.cs, S.jM, S.kq, S.z, S.fn, S.iU, jl, iP, jD, mH, qc, c9, gP, qv, mn, aj.ag, bJ, fR, au.put, gl, bO, ct, hZ, lP, finish, old, fc, tk, lZ, c, i1, Pl h, Pm h, anl h, anm, ec, gJ, ju, lb, tD, Yr, zc]
theorem ano {call : c3} {ag : aj -> V} {H : Heap} {low : Nat} (k : IntKind) (x : aj) : b9 call ag H low (.conv k x) = step ag H low (.conv k x) := rfl
set_option maxHeartbeats 1000000 in
theorem anp (T : E5 ad) {W : Nat} (h : W < 4294967296) (H : Heap) : aV ad (.fn 300 [] []) [.int .u64 1, .int .u64 W] H (.ba [.int .u64 0, .int .u64 W]) := by
 have hm := ann T h H
 unfold aV u64 at *
 rw [sf, T.aDC]
 simp [ayW, jl, iP, jD, mH, oc, qa, qc, qb, nw, c9, gP, qv, oD, mn, pt, qx, sE, rq, qw, nb, rp, vW, aj.ag, bJ, fR, au.put, dY, o4, o3, fe, gl, eg, bO, ct, hZ, lP, finish, old, fc, flat, lZ, tk, jk, hJ, aG, S.R, S.oE, S.q, S.k, S.rt, S.iD, S.cj, S.e, S.r, S.o, S.n, S.rg, S.m, S.b2, S.ls, S.di, S.eq, S.ne, S.lt, S.gt, S.df, S.no, S.jr, S.st, S.gI, S.ia, S.kr, S.ex, S.c, S.cs, S.jM, S.kq, S.z, S.fn, S.iU, hm]
def jj (lo hi : Int) : V := .agg [.int .i64 lo, .int .i64 hi]
def Pn : V := .agg [.int .i64 0, .int .i64 0]
def mD (e : V) (m W : Nat) : List V := List.replicate m e ++ List.replicate (W - m) Pn
theorem anq {e : V} {m W : Nat} (h : m <= W) : (mD e m W).length = W := by simp [mD]; omega
theorem Ys {e : V} {m W : Nat} : (mD e m W).take m = List.replicate m e := by simp [mD, List.take_append]
theorem anr {e : V} {m W : Nat} (h : m <= W) (h1 : 1 <= m) : (mD e m W).take m ++ ((mD e m W).take m).take (W - m) ++ (mD e m W).drop (m + min (W - m) m) = mD e (m + min (W - m) m) W := by
 rw [Ys, List.take_replicate]
 unfold mD
 rw [PN, List.drop_replicate, List.drop_replicate, vf]
 rw [show m - (m + min (W - m) m) = 0 by omega]
 simp only [List.replicate_zero, oZ]
 rw [show W - m - (m + min (W - m) m - m) = W - (m + min (W - m) m) by omega, List.replicate_append_replicate]
theorem ans {a b : Int} (m : Nat) : k6 ((List.replicate m (jj a b)).flatMap aG) = true := by
 induction m with
 | zero => rfl
 | succ m ih => rw [Bw, kF]; simp [jj, aG, k6, plainCell] at ih ⊢; exact ih
set_option maxHeartbeats 1000000 in
theorem ant (T : E5 ad) {a b : Int} {W : Nat} {H : Heap} (hW : W <= 1000) : ∀ (j m : Nat) (st : au), m + j = W -> 1 <= m -> st.H = H ++ [.row 2 (mD (jj a b) m W) false] -> H.length <= st.low -> st.low <= H.length + 1 -> bJ st.aw 7 = .cQ H.length 2 0 W W -> bJ st.aw 8 = .int .i64 m ->
  ∃ aU, dO ad (.loop HF) st = some (.exit 0, aU) /\ aU.H = H ++ [.row 2 (mD (jj a b) W W) false] /\ H.length <= aU.low /\ bJ aU.aw 7 = .cQ H.length 2 0 W W := by
 intro j
 induction j using Nat.strongRecOn with
 | ind j ih =>
   intro m st hj hm h1 h2 vB qL Yt
   have jo := anq (e := jj a b) (m := m) (W := W) (by omega)
   by_cases anu : m = W
   · subst anu
     rw [se]
     refine ⟨_, by simp [HF, jl, iP, jD, mH, oc, qa, qc, qb, nw, c9, gP, qv, oD, mn, pt, qx, sE, rq, qw, nb, rp, aj.ag, bJ, fM, au.put, dY, o4, o3, fe, gl, eg, bO, ct, hZ, lP, finish, old, fc, flat, lZ, tk, jk, hJ, Mm, S.R, S.oE, S.q, S.k, S.rt, S.iD, S.cj, S.e, S.r, S.o, S.n, S.rg, S.m, S.b2, S.ls, S.di, S.eq, S.ne, S.lt, S.gt, S.df, S.no, S.jr, S.st, S.gI, S.ia, S.kr, S.ex, S.c, S.cs, S.jM, S.kq, S.z, S.fn, S.iU, h1, qL, Yt, Yp, Jv, s9, jo]; rfl, ?_⟩
     exact ⟨by simp, by simp; omega, by simp [fM, qL]⟩
   · have aH : (m : Int) < (W : Int) := by omega
     have En : m < W := by omega
     have Kr : m <= W := by omega
     have anv := ans (a := a) (b := b) m
     have cp := anr (e := jj a b) (m := m) (W := W) (by omega) hm
     have hw : IntKind.i64.wrap ((m : Int) + ((min (W - m) m : Nat) : Int)) = ((m + min (W - m) m : Nat) : Int) := by rw [wrap_small] <;> omega
     have EU := Ys (e := jj a b) (m := m) (W := W)
     have ot : (List.replicate m (jj a b)).length = m := by simp
     have anw : m + (W - m) = W := by omega
     have ER : ∃ bW, dO ad HF st = some (.normal, bW) /\ bW.H = H ++ [.row 2 (mD (jj a b) (m + min (W - m) m) W) false] /\ H.length <= bW.low /\ bW.low <= H.length + 1 /\ bJ bW.aw 7 = .cQ H.length 2 0 W W /\ bJ bW.aw 8 = .int .i64 ((m + min (W - m) m : Nat) : Int) := by
      generalize oG : mD (jj a b) m W = P at *
      have fB : 0 < m := hm
      refine ⟨_, by simp [HF, jl, iP, jD, mH, oc, qa, qc, qb, nw, c9, gP, qv, oD, mn, pt, qx, sE, rq, qw, nb, rp, aj.ag, bJ, fM, au.put, dY, o4, o3, fe, gl, eg, bO, ct, hZ, lP, finish, old, fc, flat, lZ, tk, jk, hJ, Mm, S.R, S.oE, S.q, S.k, S.rt, S.iD, S.cj, S.e, S.r, S.o, S.n, S.rg, S.m, S.b2, S.ls, S.di, S.eq, S.ne, S.lt, S.gt, S.df, S.no, S.jr, S.st, S.gI, S.ia, S.kr, S.ex, S.c, S.cs, S.jM, S.kq, S.z, S.fn, S.iU, h1, qL, Yt, Yp, Jv, s9, vc, jo, aH, En, Kr, fB, SV, Yq, step, eG, elems, EU, ot, anv, anw, hw, fJ, p7, vn, gm, -List.take_replicate]; exact ⟨.inl (.inl ⟨by decide, by decide⟩), rfl⟩, ?_⟩
      refine ⟨?_, by simp; omega, by simp; omega, by simp [fM, qL], by simp [fM]⟩
      rw [EU] at cp
      simp [<- cp, -List.take_replicate]
     obtain ⟨bW, q1, aS, bZ, cR, e8, hC⟩ := ER
     obtain ⟨aU, bG, ch⟩ := ih (W - (m + min (W - m) m)) (by omega) (m + min (W - m) m) bW (by omega) (by omega) aS bZ cR e8 hC
     exact ⟨aU, by rw [se, q1]; exact bG, ch⟩
theorem Yu (a b : Int) : ∀ m, ct (List.replicate m (jj a b)) = true
 | 0 => rfl
 | m + 1 => by rw [Bw]; simp only [ct, Yu a b m, vk]; rfl
theorem anx (n : Nat) (a b : Int) (m : Nat) : fc n (List.replicate m (jj a b)) = true := by
 induction m with
 | zero => rfl
 | succ m ih => rw [Bw]; simp only [fc, ih, vk]; rfl
set_option maxHeartbeats 2000000 in
theorem anz (T : E5 ad) {a b : Int} {W : Nat} (hW : W <= 1000) (h1 : 1 <= W) (H : Heap) :
  cK ad (.fn 187 [] []) [.list 2 [jj a b], .int .i64 W] H = some (.list 2 (List.replicate W (jj a b)), H, H.length) := by
 have hm := anp T (W := W) (by omega) H
 unfold aV at hm
 have FJ : IntKind.u64.wrap 1 = 1 := Jw (by omega) (by omega)
 have sn : IntKind.u64.wrap (W : Int) = W := Jw (by omega) (by omega)
 have hi : IntKind.i64.wrap (W : Int) = W := by rw [wrap_small] <;> omega
 have anA : ¬ (W : Int) < 0 := by omega
 have OB : ¬ (W : Int) > 9223372036854775807 := by omega
 have anB : ¬ (9223372036854775807 : Int) < (W : Int) := by omega
 have hz : (W : Int) * 17 <= 1099511627776 := by omega
 have FI : ¬ (W : Int) = 0 := by omega
 have anC : ¬ W = 0 := by omega
 have Cw : (0 : Int) <= W := by omega
 have Pk : min W 1 = 1 := by omega
 have zO : k6 (List.flatMap aG [jj a b]) = true := rfl
 have anD : mD (jj a b) 1 W = jj a b :: List.replicate (W - 1) Pn := rfl
 have anE : mD (jj a b) W W = List.replicate W (jj a b) := by simp [mD]
 obtain ⟨aU, bG, ch, eL, gq⟩ := ant T (a := a) (b := b) (W := W) (H := H) hW (W - 1) 1
  { aE := [], aw := [(0, .list 2 [jj a b]), (1, .int .i64 W), (4, .c0), (10, .bool false), (5, .int .u64 0), (6, .int .u64 W), (26, .bool false), (7, .cQ H.length 2 0 W W), (8, .int .i64 1)], H := H ++ [.row 2 (mD (jj a b) 1 W) false], low := H.length } (by omega) (aK _) rfl (aK _) (by simp) rfl rfl
 rw [anE] at ch
 have anF := Yu a b W
 have hold := anx H.length a b W
 have anG : List.take W [jj a b] = [jj a b] := JF (by simpa using h1)
 have aP : V.agg [V.int .i64 0, V.int .i64 0] = Pn := rfl
 rw [anD] at bG
 rw [sf, T.aDE]
 have iz : xW 2 (V.list 2 [jj a b]) = true := rfl
 have Po : (el (V.list 2 [jj a b])).length = 1 := rfl
 simp [ayU, jl, iP, jD, mH, oc, qa, qc, qb, nw, c9, gP, qv, oD, mn, pt, qx, sE, rq, qw, nb, rp, aj.ag, bJ, fR, au.put, dY, o4, o3, fe, gl, eg, bO, ct, hZ, lP, finish, old, fc, flat, lZ, tk, jk, hJ, Mm, S.R, S.oE, S.q, S.k, S.rt, S.iD, S.cj, S.e, S.r, S.o, S.n, S.rg, S.m, S.b2, S.ls, S.di, S.eq, S.ne, S.lt, S.gt, S.df, S.no, S.jr, S.st, S.gI, S.ia, S.kr, S.ex, S.c, S.cs, S.jM, S.kq, S.z, S.fn, S.iU, SY 2, iz, Po, ano, step, FJ, sn, hi, hm, anA, OB, anB, Me, lO, aP, hz, FI, anC, Cw, Yq, elems, s9, vc, anG, zO, Pk, bG, ch, eL, gq, hold, anF, fM, -List.flatMap_cons]
theorem anH (T : E5 ad) : ajg ad := by
 intro H0 x n r h
 unfold C2 at h
 split at h
 · rename_i hc
   obtain ⟨h1, h2, av⟩ := hc
   cases h
   obtain ⟨rg, hx⟩ : ∃ rg, x = .mk [rg] := by
    cases x with
    | nil => simp [ak.l] at h1
    | emp => simp [ak.l] at h1
    | mk l => match l, h1 with
      | [rg], _ => exact ⟨rg, rfl⟩
   subst hx
   obtain ⟨W, rfl⟩ := Pz (show 0 <= n by omega)
   have := anz T (a := rg.eN) (b := rg.eO) (W := W) (by omega) (by omega) H0
   have e : (List.replicate ((W : Int)).toNat (ak.mk [rg]).l).flatten = List.replicate W rg := by
    rw [JM]
    show (List.replicate W [rg]).flatten = _
    simp
   rw [e]
   show cK ad (.fn 187 [] []) [.list 2 [pA rg], aI (W : Int)] H0 = some (.list 2 ((List.replicate W rg).map pA), H0, H0.length)
   rw [List.map_replicate]
   exact this
 · cases h
end
end Go.Abs.U
set_option maxRecDepth 100000
namespace Go.Abs.U
open Go Go.Abs Go.Proofs
noncomputable section
variable {g : Nat -> Option Obj}
theorem anY (aDF : ∀ (G : bT) (H : Heap) (w : World), bb (C g) id G H w -> Lib.TabIs Tryz.prog w "internal/strconv.uint64pow10" .u64 Lib.pow10Tab) (uf : ∀ (G : bT) (H : Heap) (w : World), bb (C g) id G H w -> Lib.TabIs Tryz.prog w "strings.asciiSpace" .u8 Lib.asciiSpaceTab) : dU (C g) id (fW g) := by
 refine ⟨fun i f h => ?_, fun i sp h => ?_⟩
 · unfold fW at h
   split at h
   · cases h
   · split at h
     · rename_i fn j4
       split at h
       · rename_i a ao
         cases h
         obtain ⟨c, -, -, -, -, -, eT⟩ := Gh ao
         exact ⟨fn, j4, by rw [eT]; exact ao⟩
       · cases h
     · cases h
 · unfold fW at h
   split at h
   · rename_i s hs
     cases h
     unfold SJ at hs
     split at hs <;> first | (cases hs; done) | skip
     · cases hs; exact adS aDF
     · cases hs; exact adY
     · cases hs; exact adU
     · cases hs; exact adO
     · cases hs; exact ad1
     · cases hs; exact adV uf
     · cases hs; exact adT
   · split at h
     · split at h <;> cases h
     · cases h
def Pp : Option ca -> Bool
 | some (.code _) => true
 | _ => false
theorem Yv {o : Option ca} (h : Pp o = true) : ∃ f, o = some (.code f) := by
 match o, h with
 | some (.code f), _ => exact ⟨f, rfl⟩
theorem mE {ad : Nat -> Option ca} {n i : Nat} {l : List (List V × V)} (hT : dU (C g) id ad) (hc : Pp (ad i) = true) (h : iS ad n i l) : dU (C g) id (over ad i (iR l)) := by
 obtain ⟨f, ae⟩ := Yv hc
 exact CB hT (Gj mixed sD hT ae h)
theorem anZ (h : dU (C g) id (fW g)) : dU (C g) id (ru g) := CB h (lY.Gj mixed sD (Cy mixed sD h 60) Tryz.func156 (az4 g) (ael g))
theorem an0 (h : dU (C g) id (fW g)) : dU (C g) id (GA g) := mE (anZ h) (by kernel_rfl) (aAC g)
theorem an1 (h : dU (C g) id (fW g)) : dU (C g) id (GC g) := mE (an0 h) (by kernel_rfl) (aAD g)
theorem an2 (h : dU (C g) id (fW g)) : dU (C g) id (GD g) := mE (an1 h) (by kernel_rfl) (aAO g)
theorem an3 (h : dU (C g) id (fW g)) : dU (C g) id (CR g) := mE (an2 h) (by kernel_rfl) (aAQ g)
theorem an4 (h : dU (C g) id (fW g)) : dU (C g) id (GF g) := mE (an3 h) (by kernel_rfl) (aAS g)
theorem an5 (h : dU (C g) id (fW g)) : dU (C g) id (jQ g) := mE (an4 h) (by kernel_rfl) (aAU g)
theorem an6 (h : dU (C g) id (fW g)) : dU (C g) id (GG g) := mE (an5 h) (by kernel_rfl) (aAW g)
theorem an7 (h : dU (C g) id (fW g)) : dU (C g) id (GH g) := mE (an6 h) (by kernel_rfl) (aAY g)
theorem an8 (h : dU (C g) id (fW g)) : dU (C g) id (GI g) := mE (an7 h) (by kernel_rfl) (aBC g)
theorem an9 (h : dU (C g) id (fW g)) : dU (C g) id (GJ g) := mE (an8 h) (by kernel_rfl) (aBE g)
theorem aoa (h : dU (C g) id (fW g)) : dU (C g) id (GK g) := mE (an9 h) (by kernel_rfl) (aBG g)
theorem aob (h : dU (C g) id (fW g)) : dU (C g) id (CS g) := mE (aoa h) (by kernel_rfl) (aBP g).choose_spec
theorem aoc (h : dU (C g) id (fW g)) : dU (C g) id (GL g) := mE (aob h) (by kernel_rfl) (aBR g)
theorem Yw (h : dU (C g) id (fW g)) : dU (C g) id (Mg g) := mE (aoc h) (by kernel_rfl) (aBT g)
theorem aod (h : dU (C g) id (fW g)) : dU (C g) id (GM g) := mE (Yw h) (by kernel_rfl) (aBX g)
theorem aoe (h : dU (C g) id (fW g)) : dU (C g) id (GN g) := mE (aod h) (by kernel_rfl) (aB0 g)
theorem aof (h : dU (C g) id (fW g)) : dU (C g) id (GO g) := CB (aoe h) (lY.Gj mixed sD (Cy mixed sD (aoe h) 200) Tryz.func35 (az5 g) (afg g))
theorem aog (h : dU (C g) id (fW g)) : dU (C g) id (Mh g) := mE (aof h) (by kernel_rfl) (aB2 g)
theorem aDG (h : dU (C g) id (fW g)) : dU (C g) id (HT g) := mE (aog h) (by kernel_rfl) (aB4 g)
theorem aDH (h : dU (C g) id (fW g)) : dU (C g) id (gr g) := mE (aDG h) (by kernel_rfl) (aB6 g)
theorem aDI (h : dU (C g) id (fW g)) : dU (C g) id (DP g) := mE (aDH h) (by kernel_rfl) (aCA g)
theorem aDJ (h : dU (C g) id (fW g)) : dU (C g) id (x8 g) := mE (aDI h) (by kernel_rfl) (afm g)
theorem aDK (h : dU (C g) id (fW g)) : dU (C g) id (DQ g) := mE (aDJ h) (by kernel_rfl) (aCL g)
theorem aDL (h : dU (C g) id (fW g)) : dU (C g) id (HU g) := mE (aDK h) (by kernel_rfl) (aCO g)
theorem aDM (h : dU (C g) id (fW g)) : dU (C g) id (DR g) := mE (aDL h) (by kernel_rfl) (aCQ g)
theorem aDN (h : dU (C g) id (fW g)) : dU (C g) id (Nh g) := mE (aDM h) (by kernel_rfl) (aCT g)
theorem aoh (h : dU (C g) id (fW g)) : nL (C g) id 4 (CA [] (.bool true)) := by
 obtain ⟨f, ae⟩ := Yv (show Pp (Nh g 4) = true by kernel_rfl)
 exact acX mixed sD (aDN h) ae rfl (afn g)
end
end Go.Abs.U
namespace Go.Abs.U
open Go Go.Abs Go.Abs.gB
theorem cy : gC bh where
 lD := fun t x B ρ fs => match t, x with
  | 0, x => .int
  | 1, x => (.WG (WH (i := 0) rfl))
  | 2, x => .str
  | 3, x => .int
  | 4, x => .agg (.cons .int (.cons .int (.cons .int .nil)))
  | 5, x => .sl
  | 6, x => .sl
  | 7, x => .agg (.cons .int (.cons .int .nil))
  | 8, x => .agg (.cons .str (.cons .int (.cons .sl (.cons .int (.cons .int (.cons .int .nil))))))
  | 9, x => .sl
  | 10, x => .sl
  | 11, x => .agg (.cons .int (.cons .int .nil))
  | 12, x => .sl
  | 13, x => .agg (.cons .sl (.cons .int .nil))
  | 14, x => .agg (.cons .int (.cons .int (.cons .sl (.cons .int (.cons .int (.cons .int .nil))))))
  | 15, x => .sl
  | 16, x => .agg (.cons .str (.cons (.WG (WH (i := 0) rfl)) (.cons .sl .nil)))
  | 17, x => .sl
  | 18, x => .agg (.cons .int (.cons .int .nil))
  | 19, x => .sl
  | 20, x => .sl
  | 21, x => .agg (.cons .int (.cons .int (.cons .int .nil)))
  | 22, x => .sl
  | 23, x => .agg (.cons .sl (.cons .sl (.cons .sl .nil)))
  | 24, x => .agg (.cons .int (.cons .sl (.cons .sl (.cons .sl (.cons .sl .nil)))))
  | 25, x => .sl
  | 26, x => .agg (.cons .sl (.cons .sl (.cons .sl (.cons .sl (.cons .sl (.cons .sl (.cons .sl .nil)))))))
  | 27, x => .sl
  | 28, x => .sl
  | 29, x => .agg (.cons .sl (.cons .sl (.cons .sl (.cons .sl (.cons .sl (.cons .sl (.cons .sl (.cons .sl .nil))))))))
  | 30, x => .sl
  | 31, x => .agg (.cons .int (.cons .int .nil))
  | 32, x => .sl
  | _ + 33, _ => .k
 iH := fun t v B ρ fs w x af h => match t, x, h with
  | 0, x, h => hI (J := bh) (k := .i64) (n := x) (v := v) h af
  | 1, x, h => WI (J := bh) (B := B) (c := x) (v := v) h af
  | 2, x, h => Od (J := bh) (s := x) (v := v) h af
  | 3, x, h => hI (J := bh) (k := .u8) (n := x) (v := v) h af
  | 4, x, h => by
    obtain ⟨vs, ws, rfl, hr, h⟩ := oQ (J := bh) h af
    split at h
    · obtain ⟨_, _, rfl, fx, hr⟩ := bp.inv hr; obtain ⟨_, _, rfl, q1, hr⟩ := bp.inv hr; obtain ⟨_, _, rfl, aS, hr⟩ := bp.inv hr; cases bp.oN hr
      obtain ⟨b8, h0, h⟩ := dG.1 h
      obtain ⟨bu, h1, h⟩ := dG.1 h
      obtain ⟨cq, h2, h⟩ := dG.1 h
      cases h
      rw [hI h0 fx, hI h1 q1, hI h2 aS]; rfl
    · cases h
  | 5, x, h => fw (J := bh) (t := 4) h af
  | 6, x, h => fw (J := bh) (t := 0) h af
  | 7, x, h => by
    obtain ⟨vs, ws, rfl, hr, h⟩ := oQ (J := bh) h af
    split at h
    · obtain ⟨_, _, rfl, fx, hr⟩ := bp.inv hr; obtain ⟨_, _, rfl, q1, hr⟩ := bp.inv hr; cases bp.oN hr
      obtain ⟨b8, h0, h⟩ := dG.1 h
      obtain ⟨bu, h1, h⟩ := dG.1 h
      cases h
      rw [hI h0 fx, hI h1 q1]; rfl
    · cases h
  | 8, x, h => by
    obtain ⟨vs, ws, rfl, hr, h⟩ := oQ (J := bh) h af
    split at h
    · obtain ⟨_, _, rfl, fx, hr⟩ := bp.inv hr; obtain ⟨_, _, rfl, q1, hr⟩ := bp.inv hr; obtain ⟨_, _, rfl, aS, hr⟩ := bp.inv hr; obtain ⟨_, _, rfl, bZ, hr⟩ := bp.inv hr; obtain ⟨_, _, rfl, cR, hr⟩ := bp.inv hr; obtain ⟨_, _, rfl, e8, hr⟩ := bp.inv hr; cases bp.oN hr
      obtain ⟨b8, h0, h⟩ := dG.1 h
      obtain ⟨bu, h1, h⟩ := dG.1 h
      obtain ⟨cq, h2, h⟩ := dG.1 h
      obtain ⟨dd, av, h⟩ := dG.1 h
      obtain ⟨kc, bc, h⟩ := dG.1 h
      obtain ⟨eM, h5, h⟩ := dG.1 h
      cases h
      rw [Od h0 fx, hI h1 q1, fw (J := bh) (t := 0) h2 aS, hI av bZ, hI bc cR, hI h5 e8]; rfl
    · cases h
  | 9, x, h => fw (J := bh) (t := 8) h af
  | 10, x, h => fw (J := bh) (t := 2) h af
  | 11, x, h => by
    obtain ⟨vs, ws, rfl, hr, h⟩ := oQ (J := bh) h af
    split at h
    · obtain ⟨_, _, rfl, fx, hr⟩ := bp.inv hr; obtain ⟨_, _, rfl, q1, hr⟩ := bp.inv hr; cases bp.oN hr
      obtain ⟨b8, h0, h⟩ := dG.1 h
      obtain ⟨bu, h1, h⟩ := dG.1 h
      cases h
      rw [hI h0 fx, hI h1 q1]; rfl
    · cases h
  | 12, x, h => fw (J := bh) (t := 11) h af
  | 13, x, h => by
    obtain ⟨vs, ws, rfl, hr, h⟩ := oQ (J := bh) h af
    split at h
    · obtain ⟨_, _, rfl, fx, hr⟩ := bp.inv hr; obtain ⟨_, _, rfl, q1, hr⟩ := bp.inv hr; cases bp.oN hr
      obtain ⟨b8, h0, h⟩ := dG.1 h
      obtain ⟨bu, h1, h⟩ := dG.1 h
      cases h
      rw [fw (J := bh) (t := 11) h0 fx, hI h1 q1]; rfl
    · cases h
  | 14, x, h => by
    obtain ⟨vs, ws, rfl, hr, h⟩ := oQ (J := bh) h af
    split at h
    · obtain ⟨_, _, rfl, fx, hr⟩ := bp.inv hr; obtain ⟨_, _, rfl, q1, hr⟩ := bp.inv hr; obtain ⟨_, _, rfl, aS, hr⟩ := bp.inv hr; obtain ⟨_, _, rfl, bZ, hr⟩ := bp.inv hr; obtain ⟨_, _, rfl, cR, hr⟩ := bp.inv hr; obtain ⟨_, _, rfl, e8, hr⟩ := bp.inv hr; cases bp.oN hr
      obtain ⟨b8, h0, h⟩ := dG.1 h
      obtain ⟨bu, h1, h⟩ := dG.1 h
      obtain ⟨cq, h2, h⟩ := dG.1 h
      obtain ⟨dd, av, h⟩ := dG.1 h
      obtain ⟨kc, bc, h⟩ := dG.1 h
      obtain ⟨eM, h5, h⟩ := dG.1 h
      cases h
      rw [hI h0 fx, hI h1 q1, fw (J := bh) (t := 11) h2 aS, hI av bZ, hI bc cR, hI h5 e8]; rfl
    · cases h
  | 15, x, h => fw (J := bh) (t := 14) h af
  | 16, x, h => by
    obtain ⟨vs, ws, rfl, hr, h⟩ := oQ (J := bh) h af
    split at h
    · obtain ⟨_, _, rfl, fx, hr⟩ := bp.inv hr; obtain ⟨_, _, rfl, q1, hr⟩ := bp.inv hr; obtain ⟨_, _, rfl, aS, hr⟩ := bp.inv hr; cases bp.oN hr
      obtain ⟨b8, h0, h⟩ := dG.1 h
      obtain ⟨bu, h1, h⟩ := dG.1 h
      obtain ⟨cq, h2, h⟩ := dG.1 h
      cases h
      rw [Od h0 fx, WI h1 q1, fw (J := bh) (t := 0) h2 aS]; rfl
    · cases h
  | 17, x, h => fw (J := bh) (t := 16) h af
  | 18, x, h => by
    obtain ⟨vs, ws, rfl, hr, h⟩ := oQ (J := bh) h af
    split at h
    · obtain ⟨_, _, rfl, fx, hr⟩ := bp.inv hr; obtain ⟨_, _, rfl, q1, hr⟩ := bp.inv hr; cases bp.oN hr
      obtain ⟨b8, h0, h⟩ := dG.1 h
      obtain ⟨bu, h1, h⟩ := dG.1 h
      cases h
      rw [hI h0 fx, hI h1 q1]; rfl
    · cases h
  | 19, x, h => fw (J := bh) (t := 18) h af
  | 20, x, h => fw (J := bh) (t := 13) h af
  | 21, x, h => by
    obtain ⟨vs, ws, rfl, hr, h⟩ := oQ (J := bh) h af
    split at h
    · obtain ⟨_, _, rfl, fx, hr⟩ := bp.inv hr; obtain ⟨_, _, rfl, q1, hr⟩ := bp.inv hr; obtain ⟨_, _, rfl, aS, hr⟩ := bp.inv hr; cases bp.oN hr
      obtain ⟨b8, h0, h⟩ := dG.1 h
      obtain ⟨bu, h1, h⟩ := dG.1 h
      obtain ⟨cq, h2, h⟩ := dG.1 h
      cases h
      rw [hI h0 fx, hI h1 q1, hI h2 aS]; rfl
    · cases h
  | 22, x, h => fw (J := bh) (t := 21) h af
  | 23, x, h => by
    obtain ⟨vs, ws, rfl, hr, h⟩ := oQ (J := bh) h af
    split at h
    · obtain ⟨_, _, rfl, fx, hr⟩ := bp.inv hr; obtain ⟨_, _, rfl, q1, hr⟩ := bp.inv hr; obtain ⟨_, _, rfl, aS, hr⟩ := bp.inv hr; cases bp.oN hr
      obtain ⟨b8, h0, h⟩ := dG.1 h
      obtain ⟨bu, h1, h⟩ := dG.1 h
      obtain ⟨cq, h2, h⟩ := dG.1 h
      cases h
      rw [fw (J := bh) (t := 18) h0 fx, fw (J := bh) (t := 13) h1 q1, fw (J := bh) (t := 21) h2 aS]; rfl
    · cases h
  | 24, x, h => by
    obtain ⟨vs, ws, rfl, hr, h⟩ := oQ (J := bh) h af
    split at h
    · obtain ⟨_, _, rfl, fx, hr⟩ := bp.inv hr; obtain ⟨_, _, rfl, q1, hr⟩ := bp.inv hr; obtain ⟨_, _, rfl, aS, hr⟩ := bp.inv hr; obtain ⟨_, _, rfl, bZ, hr⟩ := bp.inv hr; obtain ⟨_, _, rfl, cR, hr⟩ := bp.inv hr; cases bp.oN hr
      obtain ⟨b8, h0, h⟩ := dG.1 h
      obtain ⟨bu, h1, h⟩ := dG.1 h
      obtain ⟨cq, h2, h⟩ := dG.1 h
      obtain ⟨dd, av, h⟩ := dG.1 h
      obtain ⟨kc, bc, h⟩ := dG.1 h
      cases h
      rw [hI h0 fx, fw (J := bh) (t := 0) h1 q1, fw (J := bh) (t := 18) h2 aS, fw (J := bh) (t := 13) av bZ, fw (J := bh) (t := 21) bc cR]; rfl
    · cases h
  | 25, x, h => fw (J := bh) (t := 24) h af
  | 26, x, h => by
    obtain ⟨vs, ws, rfl, hr, h⟩ := oQ (J := bh) h af
    split at h
    · obtain ⟨_, _, rfl, fx, hr⟩ := bp.inv hr; obtain ⟨_, _, rfl, q1, hr⟩ := bp.inv hr; obtain ⟨_, _, rfl, aS, hr⟩ := bp.inv hr; obtain ⟨_, _, rfl, bZ, hr⟩ := bp.inv hr; obtain ⟨_, _, rfl, cR, hr⟩ := bp.inv hr; obtain ⟨_, _, rfl, e8, hr⟩ := bp.inv hr; obtain ⟨_, _, rfl, hC, hr⟩ := bp.inv hr; cases bp.oN hr
      obtain ⟨b8, h0, h⟩ := dG.1 h
      obtain ⟨bu, h1, h⟩ := dG.1 h
      obtain ⟨cq, h2, h⟩ := dG.1 h
      obtain ⟨dd, av, h⟩ := dG.1 h
      obtain ⟨kc, bc, h⟩ := dG.1 h
      obtain ⟨eM, h5, h⟩ := dG.1 h
      obtain ⟨nV, gu, h⟩ := dG.1 h
      cases h
      rw [fw (J := bh) (t := 0) h0 fx, fw (J := bh) (t := 8) h1 q1, fw (J := bh) (t := 2) h2 aS, fw (J := bh) (t := 14) av bZ, fw (J := bh) (t := 16) bc cR, fw (J := bh) (t := 24) h5 e8, fw (J := bh) (t := 4) gu hC]; rfl
    · cases h
  | 27, x, h => fw (J := bh) (t := 1) h af
  | 28, x, h => fw (J := bh) (t := 7) h af
  | 29, x, h => by
    obtain ⟨vs, ws, rfl, hr, h⟩ := oQ (J := bh) h af
    split at h
    · obtain ⟨_, _, rfl, fx, hr⟩ := bp.inv hr; obtain ⟨_, _, rfl, q1, hr⟩ := bp.inv hr; obtain ⟨_, _, rfl, aS, hr⟩ := bp.inv hr; obtain ⟨_, _, rfl, bZ, hr⟩ := bp.inv hr; obtain ⟨_, _, rfl, cR, hr⟩ := bp.inv hr; obtain ⟨_, _, rfl, e8, hr⟩ := bp.inv hr; obtain ⟨_, _, rfl, hC, hr⟩ := bp.inv hr; obtain ⟨_, _, rfl, nM, hr⟩ := bp.inv hr; cases bp.oN hr
      obtain ⟨b8, h0, h⟩ := dG.1 h
      obtain ⟨bu, h1, h⟩ := dG.1 h
      obtain ⟨cq, h2, h⟩ := dG.1 h
      obtain ⟨dd, av, h⟩ := dG.1 h
      obtain ⟨kc, bc, h⟩ := dG.1 h
      obtain ⟨eM, h5, h⟩ := dG.1 h
      obtain ⟨nV, gu, h⟩ := dG.1 h
      obtain ⟨Av, lv, h⟩ := dG.1 h
      cases h
      rw [fw (J := bh) (t := 0) h0 fx, fw (J := bh) (t := 8) h1 q1, fw (J := bh) (t := 2) h2 aS, fw (J := bh) (t := 14) av bZ, fw (J := bh) (t := 16) bc cR, fw (J := bh) (t := 24) h5 e8, fw (J := bh) (t := 4) gu hC, fw (J := bh) (t := 7) lv nM]; rfl
    · cases h
  | 30, x, h => fw (J := bh) (t := 6) h af
  | 31, x, h => by
    obtain ⟨vs, ws, rfl, hr, h⟩ := oQ (J := bh) h af
    split at h
    · obtain ⟨_, _, rfl, fx, hr⟩ := bp.inv hr; obtain ⟨_, _, rfl, q1, hr⟩ := bp.inv hr; cases bp.oN hr
      obtain ⟨b8, h0, h⟩ := dG.1 h
      obtain ⟨bu, h1, h⟩ := dG.1 h
      cases h
      rw [hI h0 fx, hI h1 q1]; rfl
    · cases h
  | 32, x, h => fw (J := bh) (t := 31) h af
  | _ + 33, _, h => by cases h
 bO := fun t x => match t, x with
  | 0, x => rfl
  | 1, x => rfl
  | 2, x => rfl
  | 3, x => rfl
  | 4, x => aga x
  | 5, x => nQ _ _ _
  | 6, x => nQ _ _ _
  | 7, x => afQ x
  | 8, x => afS x
  | 9, x => nQ _ _ _
  | 10, x => nQ _ _ _
  | 11, x => afU x
  | 12, x => nQ _ _ _
  | 13, x => afW x
  | 14, x => afY x
  | 15, x => nQ _ _ _
  | 16, x => af0 x
  | 17, x => nQ _ _ _
  | 18, x => af2 x
  | 19, x => nQ _ _ _
  | 20, x => nQ _ _ _
  | 21, x => af4 x
  | 22, x => nQ _ _ _
  | 23, x => af6 x
  | 24, x => af8 x
  | 25, x => nQ _ _ _
  | 26, x => agc x
  | 27, x => nQ _ _ _
  | 28, x => nQ _ _ _
  | 29, x => age x
  | 30, x => nQ _ _ _
  | 31, x => aCU x
  | 32, x => nQ _ _ _
  | _ + 33, _ => rfl
 ok := fun t x => match t, x with
  | 0, x => rfl
  | 1, x => rfl
  | 2, x => rfl
  | 3, x => rfl
  | 4, x => agb x
  | 5, x => oO _ _ _
  | 6, x => oO _ _ _
  | 7, x => afR x
  | 8, x => afT x
  | 9, x => oO _ _ _
  | 10, x => oO _ _ _
  | 11, x => afV x
  | 12, x => oO _ _ _
  | 13, x => afX x
  | 14, x => afZ x
  | 15, x => oO _ _ _
  | 16, x => af1 x
  | 17, x => oO _ _ _
  | 18, x => af3 x
  | 19, x => oO _ _ _
  | 20, x => oO _ _ _
  | 21, x => af5 x
  | 22, x => oO _ _ _
  | 23, x => af7 x
  | 24, x => af9 x
  | 25, x => oO _ _ _
  | 26, x => agd x
  | 27, x => oO _ _ _
  | 28, x => oO _ _ _
  | 29, x => agf x
  | 30, x => oO _ _ _
  | 31, x => aCV x
  | 32, x => oO _ _ _
  | _ + 33, _ => rfl
 es := fun t x => match t, x with
  | 0, x => rfl
  | 1, x => rfl
  | 2, x => rfl
  | 3, x => rfl
  | 4, x => rfl
  | 5, x => oP _ _ _
  | 6, x => oP _ _ _
  | 7, x => rfl
  | 8, x => rfl
  | 9, x => oP _ _ _
  | 10, x => oP _ _ _
  | 11, x => rfl
  | 12, x => oP _ _ _
  | 13, x => rfl
  | 14, x => rfl
  | 15, x => oP _ _ _
  | 16, x => rfl
  | 17, x => oP _ _ _
  | 18, x => rfl
  | 19, x => oP _ _ _
  | 20, x => oP _ _ _
  | 21, x => rfl
  | 22, x => oP _ _ _
  | 23, x => rfl
  | 24, x => rfl
  | 25, x => oP _ _ _
  | 26, x => rfl
  | 27, x => oP _ _ _
  | 28, x => oP _ _ _
  | 29, x => rfl
  | 30, x => oP _ _ _
  | 31, x => rfl
  | 32, x => oP _ _ _
  | _ + 33, _ => rfl
 a8 := fun t x => match t, x with
  | 0, x => fun h => rfl
  | 1, x => fun h => rfl
  | 2, x => fun h => rfl
  | 3, x => fun h => rfl
  | 4, x => fun h => by cases h
  | 5, x => fun h => by cases h
  | 6, x => fun h => by cases h
  | 7, x => fun h => by cases h
  | 8, x => fun h => by cases h
  | 9, x => fun h => by cases h
  | 10, x => fun h => by cases h
  | 11, x => fun h => by cases h
  | 12, x => fun h => by cases h
  | 13, x => fun h => by cases h
  | 14, x => fun h => by cases h
  | 15, x => fun h => by cases h
  | 16, x => fun h => by cases h
  | 17, x => fun h => by cases h
  | 18, x => fun h => by cases h
  | 19, x => fun h => by cases h
  | 20, x => fun h => by cases h
  | 21, x => fun h => by cases h
  | 22, x => fun h => by cases h
  | 23, x => fun h => by cases h
  | 24, x => fun h => by cases h
  | 25, x => fun h => by cases h
  | 26, x => fun h => by cases h
  | 27, x => fun h => by cases h
  | 28, x => fun h => by cases h
  | 29, x => fun h => by cases h
  | 30, x => fun h => by cases h
  | 31, x => fun h => by cases h
  | 32, x => fun h => by cases h
  | _ + 33, _ => fun h => by cases h
 VA := fun t n h => by
  have h : NA t = some n := h
  unfold NA at h
  split at h <;> cases h
  · exact CW
  · exact afC
end Go.Abs.U
