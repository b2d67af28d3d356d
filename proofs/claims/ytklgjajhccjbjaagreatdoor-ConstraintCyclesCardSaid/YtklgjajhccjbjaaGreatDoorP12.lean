/- ConstraintCycles answers true at every input. -/
import Derived.Test.YtklgjajhccjbjaaGreatDoorP11
set_option linter.unusedVariables false
set_option linter.unusedSimpArgs false
namespace Go.Abs.T12
open Go Go.Abs Go.Abs.Cyc

theorem cyc_flat {n : Nat} {U : List Int} (h : (cycL U n).length ≠ 0) : flat (cycV U 1 n) = false ∧ noCyc U 1 n = false := by
  unfold cycL at h
  rcases cycV_cases U 1 n with ⟨e1, e2, e3⟩ | ⟨p, e1, e2, e3, hne⟩
  · rw [e3] at h; exact absurd rfl h
  · rw [e1]; exact ⟨rfl, e2⟩

set_option maxHeartbeats 4000000 in
theorem constraintCycles_s {tab : Nat → Option Fun} (T : Tl tab) {z a b : Nat} (hz : z < 256) (ha : a < 256) (hb : b < 256) {ev : V} {es : List Bool} (hv : VB ev es) :
    callL tab (.fn 4 [] []) [.int .u8 (z : Int), ev, .int .u8 (a : Int), .int .u8 (b : Int)] [] = some (.bool true, [], 0) := by
  rw [callL_fn, T.h4, F4_seq]
  obtain ⟨st5, A, U, r5, h5⟩ := law_start T (a := a) (b := b) hz hv
  have hn6 : 1 + z % 6 ≤ 6 := by omega
  have hn1 : 1 ≤ 1 + z % 6 := by omega
  generalize 1 + z % 6 = n at hn6 hn1 h5
  obtain ⟨st6, fz, r6, h6⟩ := law_p6 T hn1 hn6 h5
  obtain ⟨st7, r7, h7⟩ := law_p7 T hn1 hn6 h6
  obtain ⟨st8, r8, h8, e15⟩ := law_p8 (tab := tab) h7
  obtain ⟨v1, v2, v3, v4⟩ := cycL_V A n
  obtain ⟨st9, r9, tail, h9⟩ := law_p9 (tab := tab) hn6 v1 v2 h8 e15
  have g9 : LH n st9 U false := ⟨by rw [h9.H]; rfl, by rw [h9.H]; rfl, by rw [h9.H]; exact Nat.le_trans h9.low (by simp), h9.lU, h9.e9, h9.e10, h9.e12⟩
  obtain ⟨st10, r10, hst10⟩ := law_p10 T hn1 hn6 h9.up g9
  have g10 : LH n st10 U false := by
    subst hst10
    obtain ⟨tE, vE, H, low, ro⟩ := st9
    exact g9.slots g9.low fun t ht => by
      simp only [lookE_setE]
      rcases ht with rfl | rfl | rfl <;> rfl
  have e2 : lookupE st10.vE 2 = .int .u8 (a : Int) := by subst hst10; simp [lookE_setE, h9.e2]
  have e3 : lookupE st10.vE 3 = .int .u8 (b : Int) := by subst hst10; simp [lookE_setE, h9.e3]
  obtain ⟨st12, x, y, r12, h12, hxy, hy, e19, e20⟩ := law_p11 (tab := tab) hn1 hn6 ha hb g10 e2 e3
  obtain ⟨st13, r13, h13, f19, f20⟩ := law_p13 (tab := tab) hn1 hn6 (show x < n by omega) hy h12 e19 e20
  have hlen := back_cycle h9.up h9.lU hxy hy
  have hne : (cycL (back n U x y) n).length ≠ 0 := by rw [hlen]; split <;> decide
  obtain ⟨hfl, hno⟩ := cyc_flat hne
  obtain ⟨st14, r14, h14, g19, g20, g21⟩ := law_p14 T hn1 hn6 h13 hfl f19 f20
  obtain ⟨w1, w2, w3, w4⟩ := cycL_V (back n U x y) n
  obtain ⟨tA, wA, qA, lA⟩ := k1 T hn1 hn6 h14 hno []
  have hp := (k2 (call := callL tab) (ro := st14.ro) h14.low w1 w2 g21 (by omega) lA).app (fun _ q => k3 h14.low w1 w2 g21 (by rw [hlen]; split <;> decide) q)
  obtain ⟨tB, wB, qB, lB⟩ := hp wA.reverse
  obtain ⟨tC, wC, qC⟩ := k4 (call := callL tab) (ro := st14.ro) h14.low w1 w2 g21 g19 g20 (fun e => by rw [hlen, if_pos e]) lB wB.reverse
  have r15 : execL tab F4P15 st14 = some (.normal, ⟨[], setE st14.vE 8 (.bool true), st14.H, st14.low, st14.ro⟩) := by
    rw [F4P15_cut, execL_region]
    have : execOps (callL tab) (F4P15M0 ++ (F4P15M1 ++ (F4P15M2 ++ F4P15M3))) { st14 with tE := [] } [] = some (⟨tC, setE st14.vE 8 (.bool true), st14.H, st14.low, st14.ro⟩, wC) := by
      rw [execOps_app, qA]
      simp only []
      rw [← List.append_assoc, execOps_app, qB]
      exact qC
    simp only [this]
  have r12' : ∀ R, execL tab (.seq F4P11 (.seq F4P12 R)) st10 = execL tab R st12 := fun R => by
    rw [execL_seq] at r12 ⊢
    split at r12
    · rename_i st' h
      rw [execL_seq, r12]
    · rename_i h
      exact absurd r12 (h _)
  have hbody : execL tab (.seq F4P0 (.seq F4P1 (.seq F4P2 (.seq F4P3 (.seq F4P4 (.seq F4P5 (.seq F4P6 (.seq F4P7 (.seq F4P8 (.seq F4P9 (.seq F4P10 (.seq F4P11 (.seq F4P12 (.seq F4P13 (.seq F4P14 (.seq F4P15 F4P16)))))))))))))))) ⟨[], [(0, .int .u8 (z : Int)), (1, ev), (2, .int .u8 (a : Int)), (3, .int .u8 (b : Int))], [], 0, none⟩ = some (.ret, ⟨[], setE st14.vE 8 (.bool true), st14.H, st14.low, st14.ro⟩) := by
    rw [r5, execL_seq, r6]
    simp only []
    rw [execL_seq, r7]
    simp only []
    rw [execL_seq, r8]
    simp only []
    rw [execL_seq, r9]
    simp only []
    rw [execL_seq, r10]
    simp only []
    rw [r12', execL_seq, r13]
    simp only []
    rw [execL_seq, r14]
    simp only []
    rw [execL_seq, r15]
    simp only []
    unfold F4P16
    rw [execL_ret]
  simp only [callBody, zipE, List.nil_append, List.append_nil, List.length_cons, List.length_nil, Nat.zero_add, Nat.reduceAdd, Nat.reduceLeDiff, if_true, hbody]
  simp [resultsA, resultA, lookE_setE, finish, freezeV, freezeD, isP, old]
end Go.Abs.T12
