/- Texts of this claim, joined and written short by a program. -/
import Derived.Test.YtjgngmpmjbkbpaaGreatDoorP04
import Derived.Laws.StructEq
import Derived.Test.YtjgngmpmjbkbpaaGreatDoorP00
set_option linter.unusedVariables false
set_option linter.unusedSimpArgs false
set_option linter.unusedSectionVars false
namespace Go.Abs
open Go
variable {C : Ctx} {fid : Nat -> Nat} {w w' : World} {G G' : bT} {H : Heap}
variable {vars : List Nat} {ag : aj -> V} {ρ : Operand -> Value} {low low' : Nat} {v : V} {H' : Heap} {pos : String} {c7 : cH} {o : Oper}
theorem bytes_beq (s t : List UInt8) : ((⟨⟨s⟩⟩ : ByteArray).toList == (⟨⟨t⟩⟩ : ByteArray).toList) = (s == t) := by
 rw [ByteArray.toList_eq, ByteArray.toList_eq]
theorem aaw {op : BinOp} {t : TypeId} {a b u : V} {x y : Value} (ao : bg fid G w a x) (hb : bg fid G w b y) (hu : dY op a b = some u) :
  ∃ z, (binOp op t x y).run C.P w = .ok z w /\ bg fid G w u z /\ ∀ (vx tH : Operand), eqGuard op t vx tH x y = pure () := by
 unfold dY at hu
 split at hu
 · rename_i k bf bs eE
   split at hu
   · rename_i hc
     simp only [aA] at hu; subst hu
     rw [ao.jm, hb.jm]
     refine ⟨.int k (k.wrap (bf * 2 ^ eE.toNat)), ?_, .p _ _ (.int _ _), fun _ _ => rfl⟩
     simp only [binOp, Op.shift, Int.not_lt.2 hc.1, if_false, nv hc.2, Sem.run_pure]
   · cases hu
 · rename_i k bf bs eE
   split at hu
   · rename_i hc
     simp only [aA] at hu; subst hu
     rw [ao.jm, hb.jm]
     refine ⟨.int k (bf / 2 ^ eE.toNat), ?_, .p _ _ (.int _ _), fun _ _ => rfl⟩
     have h2 : (0 : Int) <= 2 ^ eE.toNat := Int.pow_nonneg (by decide)
     simp only [binOp, Op.shift, Int.not_lt.2 hc.1, if_false, nv hc.2, Sem.run_pure, Int.fdiv_eq_ediv_of_nonneg _ h2]
   · cases hu
 · rename_i k bf bs eE gn oh
   split at hu
   · cases hu
   · rename_i ai
     have ai : k = bs := by simpa using ai
     subst ai
     rw [ao.jm, hb.jm]
     have bt : ∀ (vx tH : Operand), eqGuard op t vx tH (.int k bf) (.int k eE) = pure () := fun _ _ => by cases op <;> rfl
     cases op <;> dsimp only at hu <;>
      first
      | (cases hu; done)
      | (simp only [aA] at hu; subst hu
         refine ⟨_, ?_, .p _ _ (.int _ _), bt⟩
         simp only [binOp, ne_eq, not_true, if_false, Op.intArith, Op.intBits, Sem.run_pure]; done)
      | (simp only [aA] at hu; subst hu
         refine ⟨_, ?_, .p _ _ (.bool _), bt⟩
         simp only [binOp, ne_eq, not_true, if_false, Op.intCmp, Sem.run_pure]; done)
      | (split at hu
         · cases hu
         · rename_i aP
           simp only [aA] at hu; subst hu
           refine ⟨_, ?_, .p _ _ (.int _ _), bt⟩
           simp only [binOp, ne_eq, not_true, if_false, Op.intDiv, aP, Sem.run_pure])
 · rename_i bf eE
   split at hu
   · rename_i hc
     simp only [aA] at hu; subst hu
     rw [ao.og, hb.og]
     refine ⟨.string ⟨⟨bf ++ eE⟩⟩, ?_, .p _ _ (.str _), fun _ _ => rfl⟩
     have dP : ¬ ((((⟨⟨bf⟩⟩ : ByteArray).size + (⟨⟨eE⟩⟩ : ByteArray).size : Nat) : Int) > IntKind.i64.max) := by
      rw [IntKind.max_i64]
      have ah : (⟨⟨bf⟩⟩ : ByteArray).size = bf.length := rfl
      have e2 : (⟨⟨eE⟩⟩ : ByteArray).size = eE.length := rfl
      rw [ah, e2]; omega
     have aax : (⟨⟨bf⟩⟩ : ByteArray) ++ (⟨⟨eE⟩⟩ : ByteArray) = ⟨⟨bf ++ eE⟩⟩ := by
      apply ByteArray.ext
      rw [ByteArray.data_append]
      simp
     simp only [binOp, Op.stringOp, dP, if_false, aax, Sem.run_pure]
   · cases hu
 · rename_i bf eE
   simp only [aA] at hu; subst hu
   rw [ao.og, hb.og]
   refine ⟨.bool (bf == eE), ?_, .p _ _ (.bool _), fun _ _ => rfl⟩
   simp only [binOp, Op.stringOp, bytes_beq, Sem.run_pure]
 · rename_i bf eE
   simp only [aA] at hu; subst hu
   rw [ao.og, hb.og]
   refine ⟨.bool (bf != eE), ?_, .p _ _ (.bool _), fun _ _ => rfl⟩
   simp only [binOp, Op.stringOp, bytes_beq, Sem.run_pure, bne]
 · cases hu
theorem bg.qf {x : Value} (h : bg fid G w .iM x) : x = .pointer none := by cases h with | p _ _ h => cases h; rfl
theorem bg.jF {x : Value} (h : bg fid G w .c0 x) : x = .slice none 0 0 := by cases h with | p _ _ h => cases h; rfl
theorem bg.qY {x : Value} (h : bg fid G w .emp x) : ∃ a, x = .slice (some a) 0 0 := by cases h with | p _ _ h => cases h; exact ⟨_, rfl⟩
theorem bg.tI {x : Value} (h : bg fid G w .jB x) : x = .nilFunc := by cases h with | p _ _ h => cases h; rfl
theorem bg.tJ {x : Value} (h : bg fid G w .iN x) : x = .nilIface := by cases h with | p _ _ h => cases h; rfl
theorem bg.KA {x : Value} (h : bg fid G w .hU x) : x = .map none := by cases h with | p _ _ h => cases h; rfl
theorem bg.KB {x : Value} {t : Nat} {v : V} (h : bg fid G w (.iface t v) x) : ∃ y, x = .iface t y /\ bg fid G w v y := by
 cases h with
 | p _ _ h => cases h with | iface _ _ y h => exact ⟨y, rfl, .p _ _ h⟩
 | iface _ _ y h => exact ⟨y, rfl, h⟩
theorem bg.vy {x : Value} {es : Nat} {ds : List V} (h : bg fid G w (.list es ds) x) :
  ∃ a cap, x = .slice (some a) ds.length cap /\ ds.length <= cap /\ (ds = [] \/ ∃ b o vals, a = ⟨b, o, none⟩ /\ G.I b /\ asJ w b o vals /\ (∀ d ∈ ds, (aG d).length = es) /\ c6 w G.I (ds.flatMap aG) vals) := by
 cases h with
 | p _ _ h => cases h with
   | tB _ a cap => exact ⟨a, cap, rfl, cx _, .inl rfl⟩
   | list _ _ b o cap vals aZ hc hu hr hl => exact ⟨_, cap, rfl, hl, .inr ⟨b, o, vals, rfl, aZ, hc, hu, hr⟩⟩
def kindOk : Nat -> TypeDesc -> Prop
 | 0, d => ∃ e5, d = .pointer e5
 | 1, d => ∃ e5, d = .slice e5
 | 2, d => ∃ p r b, d = .func p r b
 | 3, d => ∃ m, d = .interface m
 | 4, d => d = .bool
 | _, _ => False
theorem aay {t : TypeId} {d : TypeDesc} (hd : C.P.underlying t = some d) {kind : Nat} {a b : V} {e : Bool} {x y : Value} (ao : bg fid G w a x) (hb : bg fid G w b y) (hu : tt kind a b = some e)
  (ai : kindOk kind d) :
  (Op.equal t x y).run C.P w = .ok e w := by
 show (Op.equalIn (9999 + 1) t x y).run C.P w = .ok e w
 generalize 9999 = depth
 unfold tt at hu
 split at hu
 · simp only [aA] at hu; subst hu
   obtain ⟨e5, rfl⟩ := ai
   rw [ao.qf, hb.qf]
   simp [Op.equalIn, run_underlying hd]
 · simp only [aA] at hu; subst hu
   obtain ⟨e5, rfl⟩ := ai
   obtain ⟨h0, -, -, rfl⟩ := ao.nB
   rw [hb.qf]
   simp [Op.equalIn, run_underlying hd]
 · simp only [aA] at hu; subst hu
   obtain ⟨e5, rfl⟩ := ai
   obtain ⟨h0, -, -, rfl⟩ := hb.nB
   rw [ao.qf]
   simp [Op.equalIn, run_underlying hd]
 · simp only [aA] at hu; subst hu
   obtain ⟨e5, rfl⟩ := ai
   rw [ao.jF, hb.jF]
   simp [Op.equalIn, run_underlying hd]
 · simp only [aA] at hu; subst hu
   obtain ⟨e5, rfl⟩ := ai
   obtain ⟨_, rfl⟩ := ao.qY
   rw [hb.jF]
   simp [Op.equalIn, run_underlying hd]
 · simp only [aA] at hu; subst hu
   obtain ⟨e5, rfl⟩ := ai
   obtain ⟨_, _, rfl, -⟩ := ao.vy
   rw [hb.jF]
   simp [Op.equalIn, run_underlying hd]
 · simp only [aA] at hu; subst hu
   obtain ⟨e5, rfl⟩ := ai
   obtain ⟨_, _, _, _, -, -, -, rfl⟩ := ao.o7
   rw [hb.jF]
   simp [Op.equalIn, run_underlying hd]
 · simp only [aA] at hu; subst hu
   obtain ⟨p, r, eE, rfl⟩ := ai
   rw [ao.tI, hb.tI]
   simp [Op.equalIn, run_underlying hd]
 · simp only [aA] at hu; subst hu
   obtain ⟨p, r, eE, rfl⟩ := ai
   obtain ⟨_, _, -, -, rfl⟩ := ao.zI
   rw [hb.tI]
   simp [Op.equalIn, run_underlying hd]
 · simp only [aA] at hu; subst hu
   obtain ⟨m, rfl⟩ := ai
   rw [ao.tJ, hb.tJ]
   simp [Op.equalIn, run_underlying hd]
 · simp only [aA] at hu; subst hu
   obtain ⟨m, rfl⟩ := ai
   obtain ⟨_, rfl, -⟩ := ao.KB
   rw [hb.tJ]
   simp [Op.equalIn, run_underlying hd]
 · simp only [aA] at hu; subst hu
   subst ai
   rw [ao.j1, hb.j1]
   simp [Op.equalIn, run_underlying hd]
 · cases hu
theorem aaz {t : TypeId} {kind : Nat} {a b : V} {e : Bool} {x y : Value} (ao : bg fid G w a x) (hb : bg fid G w b y) (hu : tt kind a b = some e) (neg : Bool)
  (bD : (Op.equal t x y).run C.P w = .ok e w) :
  (binOp (if neg then .neq else .eql) t x y).run C.P w = .ok (.bool (if neg then !e else e)) w := by
 have key : binOp (if neg then .neq else .eql) t x y = (do let q <- Op.equal t x y; pure (.bool (if neg then !q else q))) := by
  unfold tt at hu
  split at hu
  · rw [ao.qf, hb.qf]; cases neg <;> rfl
  · obtain ⟨h0, -, -, rfl⟩ := ao.nB; rw [hb.qf]; cases neg <;> rfl
  · obtain ⟨h0, -, -, rfl⟩ := hb.nB; rw [ao.qf]; cases neg <;> rfl
  · rw [ao.jF, hb.jF]; cases neg <;> rfl
  · obtain ⟨_, rfl⟩ := ao.qY; rw [hb.jF]; cases neg <;> rfl
  · obtain ⟨_, _, rfl, -⟩ := ao.vy; rw [hb.jF]; cases neg <;> rfl
  · obtain ⟨_, _, _, _, -, -, -, rfl⟩ := ao.o7; rw [hb.jF]; cases neg <;> rfl
  · rw [ao.tI, hb.tI]; cases neg <;> rfl
  · obtain ⟨_, _, -, -, rfl⟩ := ao.zI; rw [hb.tI]; cases neg <;> rfl
  · rw [ao.tJ, hb.tJ]; cases neg <;> rfl
  · obtain ⟨_, rfl, -⟩ := ao.KB; rw [hb.tJ]; cases neg <;> rfl
  · rw [ao.j1, hb.j1]; cases neg <;> rfl
  · cases hu
 rw [key, Sem.run_bind, bD]
 cases neg <;> rfl
theorem aaA {op : BinOp} {t : TypeId} {kind : Nat} {a b : V} {e : Bool} {x y : Value} {vx tH : Operand} (ao : bg fid G w a x) (hb : bg fid G w b y) (hu : tt kind a b = some e)
  (hc : kind = 3 -> ∃ c, tH = .const c) : eqGuard op t vx tH x y = pure () := by
 unfold tt at hu
 split at hu
 · rw [ao.qf, hb.qf]; cases op <;> rfl
 · obtain ⟨h0, -, -, rfl⟩ := ao.nB; rw [hb.qf]; cases op <;> rfl
 · obtain ⟨h0, -, -, rfl⟩ := hb.nB; rw [ao.qf]; cases op <;> rfl
 · rw [ao.jF, hb.jF]; cases op <;> rfl
 · obtain ⟨_, rfl⟩ := ao.qY; rw [hb.jF]; cases op <;> rfl
 · obtain ⟨_, _, rfl, -⟩ := ao.vy; rw [hb.jF]; cases op <;> rfl
 · obtain ⟨_, _, _, _, -, -, -, rfl⟩ := ao.o7; rw [hb.jF]; cases op <;> rfl
 · rw [ao.tI, hb.tI]; cases op <;> rfl
 · obtain ⟨_, _, -, -, rfl⟩ := ao.zI; rw [hb.tI]; cases op <;> rfl
 · rw [ao.tJ, hb.tJ]
   obtain ⟨c, rfl⟩ := hc rfl
   unfold eqGuard
   cases op <;> simp
 · obtain ⟨_, rfl, -⟩ := ao.KB; rw [hb.tJ]; cases op <;> rfl
 · rw [ao.j1, hb.j1]; cases op <;> rfl
 · cases hu
theorem aaB {y : Operand} {km : aj} (h : C.bV vars y = some km) (hn : Ctx.Fs km = true) : ∃ c, y = .const c := by
 cases y with
 | const c => exact ⟨c, rfl⟩
 | tmp t =>
   simp only [Ctx.bV, aA] at h; subst h
   split at hn <;> simp [Ctx.Fs] at hn
 | func f =>
   simp only [Ctx.bV, cD] at h
   obtain ⟨_, -, rfl⟩ := h
   simp [Ctx.Fs] at hn
 | global g => simp [Ctx.bV] at h
theorem QP {t : TypeId} {k : Nat} (ai : C.iQ t = some k) {a b : V} {x y : Value} {e : Bool} (ao : bg fid G w a x) (hb : bg fid G w b y) (he : hX k a b = some e) (d : Nat) :
  (Op.equalIn (d + 1) t x y).run C.P w = .ok e w := by
 unfold Ctx.iQ at ai
 unfold hX at he
 split at he
 · split at he
   · rename_i BV
     simp only [aA] at he; subst he; subst BV
     rw [ao.jm, hb.jm]
     split at ai <;> rename_i hd <;> simp at ai
     exact run_equalIn_int w d t _ _ _ _ hd
   · cases he
 · simp only [aA] at he; subst he
   rw [ao.og, hb.og]
   split at ai <;> rename_i hd <;> simp at ai
   rw [run_equalIn_string w d t _ _ hd, bytes_beq]
 · simp only [aA] at he; subst he
   rw [ao.j1, hb.j1]
   split at ai <;> rename_i hd <;> simp at ai
   exact run_equalIn_bool' w d t _ _ hd
 · cases he
theorem QQ {t : TypeId} {k : Nat} (ai : C.iQ t = some k) (w : World) : (isAgg t).run C.P w = .ok false w := by
 unfold Ctx.iQ at ai
 unfold isAgg
 split at ai <;> rename_i hd <;> first | (cases ai; done) | (rw [Sem.run_bind, run_underlying hd]; rfl)
theorem QR {xs cN : List V} {nC nD : List Value} (hx : a6 fid G w xs nC) (hy : a6 fid G w cN nD) (d : Nat) : ∀ (fs : List Field) (i : Nat) (ks : List Nat) (e : Bool), C.BK i fs = some ks ->
  jC ks (xs.drop i) (cN.drop i) = some e -> (Op.eqFields (d + 1) ⟨nC⟩ ⟨nD⟩ fs).run C.P w = .ok e w
 | [], i, ks, e, ai, he => by
   simp only [Ctx.BK, aA] at ai; subst ai
   unfold jC at he
   split at he
   · simp only [aA] at he; subst he; rfl
   · simp_all
   · cases he
 | f :: fs, i, ks, e, ai, he => by
   simp only [Ctx.BK] at ai
   split at ai
   · rename_i k zL
     split at ai
     · rename_i hc
       simp only [cd, bne_iff_ne, ne_eq, beq_iff_eq] at hc
       obtain ⟨qZ, ee, rfl⟩ := cD.1 ai
       cases q0 : xs.drop i with
       | nil => rw [q0] at he; simp [jC] at he
       | cons a KC =>
         cases tK : cN.drop i with
         | nil => rw [q0, tK] at he; simp [jC] at he
         | cons b KD =>
           rw [q0, tK] at he
           simp only [jC] at he
           have cv : xs[i]? = some a := by have := congrArg (·[0]?) q0; simpa using this
           have km : cN[i]? = some b := by have := congrArg (·[0]?) tK; simpa using this
           have KE : xs.drop (i + 1) = KC := by have := congrArg (List.drop 1) q0; simpa [r6] using this
           have KF : cN.drop (i + 1) = KD := by have := congrArg (List.drop 1) tK; simpa [r6] using this
           obtain ⟨e0, nE, KG⟩ := hx.get cv
           obtain ⟨KH, KI, KJ⟩ := hy.get km
           split at he
           · rename_i ah lj
             split at he
             · rename_i e2 mf
               simp only [aA] at he; subst he
               rw [<- KE, <- KF] at mf
               have ih := QR hx hy d fs (i + 1) qZ e2 ee mf
               have hp : ∀ (l : List Value) (z : Value), l[i]? = some z -> (part f.type ⟨l⟩ f.offset).run C.P w = .ok z w := by
                intro l z aP
                unfold part
                simp only [Sem.run_bind, QQ zL, Result.andThen_ok, gX, if_false, hc.2, te, aP, Sem.run_pure]
               simp only [Op.eqFields, hc.1, ne_eq, not_false_eq_true, if_true, Sem.run_bind, hp nC e0 nE, hp nD KH KI, Result.andThen_ok, QP zL KG KJ lj d, Sem.run_ite, Sem.run_pure, ih]
               cases ah <;> simp
             · cases he
           · cases he
     · cases ai
   · cases ai
theorem QS : ∀ (o8 xg : List Nat) (x y : List V) {e : Bool}, jC (o8 ++ xg) x y = some e ->
  ∃ ah e2, jC o8 (x.take o8.length) (y.take o8.length) = some ah /\ jC xg (x.drop o8.length) (y.drop o8.length) = some e2 /\ e = (ah && e2)
 | [], xg, x, y, e, h => ⟨true, e, by simp [jC], by simpa using h, by simp⟩
 | k :: ks, xg, [], y, e, h => by simp [jC] at h
 | k :: ks, xg, _ :: _, [], e, h => by simp [jC] at h
 | k :: ks, xg, a :: x, b :: y, e, h => by
   simp only [oX, jC] at h
   split at h
   · rename_i ez h0
     split at h
     · rename_i tL vz
       obtain ⟨ah, e2, q1, aS, rfl⟩ := QS ks xg x y vz
       simp only [aA] at h
       exact ⟨ez && ah, e2, by simp [jC, h0, q1], by simpa using aS, by rw [<- h, BB]⟩
     · cases h
   · cases h
theorem KK {xs cN : List V} {nC nD : List Value} (hx : a6 fid G w xs nC) (hy : a6 fid G w cN nD) (d : Nat) : ∀ (fs : List Field) (i : Nat) (ks : List Nat) (e : Bool), C.zz i fs = some ks ->
  jC ks (xs.drop i) (cN.drop i) = some e -> (Op.eqFields (d + 2) ⟨nC⟩ ⟨nD⟩ fs).run C.P w = .ok e w
 | [], i, ks, e, ai, he => by
   simp only [Ctx.zz, aA] at ai; subst ai
   unfold jC at he
   split at he
   · simp only [aA] at he; subst he; rfl
   · simp_all
   · cases he
 | f :: fs, i, ks, e, ai, he => by
   simp only [Ctx.zz] at ai
   split at ai
   · rename_i k zL
     split at ai
     · rename_i hc
       simp only [cd, bne_iff_ne, ne_eq, beq_iff_eq] at hc
       obtain ⟨qZ, ee, rfl⟩ := cD.1 ai
       cases q0 : xs.drop i with
       | nil => rw [q0] at he; simp [jC] at he
       | cons a KC =>
         cases tK : cN.drop i with
         | nil => rw [q0, tK] at he; simp [jC] at he
         | cons b KD =>
           rw [q0, tK] at he
           simp only [jC] at he
           have cv : xs[i]? = some a := by have := congrArg (·[0]?) q0; simpa using this
           have km : cN[i]? = some b := by have := congrArg (·[0]?) tK; simpa using this
           have KE : xs.drop (i + 1) = KC := by have := congrArg (List.drop 1) q0; simpa [r6] using this
           have KF : cN.drop (i + 1) = KD := by have := congrArg (List.drop 1) tK; simpa [r6] using this
           obtain ⟨e0, nE, KG⟩ := hx.get cv
           obtain ⟨KH, KI, KJ⟩ := hy.get km
           split at he
           · rename_i ah lj
             split at he
             · rename_i e2 mf
               simp only [aA] at he; subst he
               rw [<- KE, <- KF] at mf
               have ih := KK hx hy d fs (i + 1) qZ e2 ee mf
               have hp : ∀ (l : List Value) (z : Value), l[i]? = some z -> (part f.type ⟨l⟩ f.offset).run C.P w = .ok z w := by
                intro l z aP
                unfold part
                simp only [Sem.run_bind, QQ zL, Result.andThen_ok, gX, if_false, hc.2, te, aP, Sem.run_pure]
               simp only [Op.eqFields, hc.1, ne_eq, not_false_eq_true, if_true, Sem.run_bind, hp nC e0 nE, hp nD KH KI, Result.andThen_ok, QP zL KG KJ lj (d + 1), Sem.run_ite, Sem.run_pure, ih]
               cases ah <;> simp
             · cases he
           · cases he
     · cases ai
   · rename_i zL
     split at ai
     · rename_i gs xh
       split at ai
       · rename_i o8 aaC
         split at ai
         · rename_i hc
           simp only [cd, bne_iff_ne, ne_eq, beq_iff_eq, pZ] at hc
           obtain ⟨⟨⟨dL, e7⟩, gE⟩, jG⟩ := hc
           obtain ⟨qZ, ee, rfl⟩ := cD.1 ai
           obtain ⟨ah, e2, lj, mf, rfl⟩ := QS o8 qZ _ _ he
           rw [r6, r6] at mf
           have ih := KK hx hy d fs (i + o8.length) qZ e2 ee mf
           have QT : C.P.fieldsOf f.type = gs := by unfold Program.fieldsOf; rw [xh]
           have hp : ∀ (l : List Value), (part f.type ⟨l⟩ f.offset).run C.P w = .ok (.agg ⟨(l.drop i).take o8.length⟩) w := by
            intro l
            have Kn : (isAgg f.type).run C.P w = .ok true w := by unfold isAgg; rw [Sem.run_bind, run_underlying xh]; rfl
            unfold Ctx.sizeOf at jG
            obtain ⟨inf, aaD, dP⟩ := cD.1 jG
            unfold part
            simp only [Sem.run_bind, Kn, Result.andThen_ok, if_true, sizeOf, typeInfo, aaD, run_program, Sem.run_pure, dP, e7]
            congr 2
            rw [<- Array.toList_inj]
            simp [List.take_drop, Nat.add_comm]
           have hin : (Op.equalIn (d + 2) f.type (.agg ⟨(nC.drop i).take o8.length⟩) (.agg ⟨(nD.drop i).take o8.length⟩)).run C.P w = .ok ah w := by
            rw [run_equalIn_struct (P := C.P) w (d + 1) f.type _ _ (by rw [QT]; exact xh) gE, QT]
            exact QR ((hx.drop i).take _) ((hy.drop i).take _) d gs.toList 0 o8 ah aaC (by simpa using lj)
           simp only [Op.eqFields, dL, ne_eq, not_false_eq_true, if_true, Sem.run_bind, hp nC, hp nD, Result.andThen_ok, hin, Sem.run_ite, Sem.run_pure, ih]
           cases ah <;> simp
         · cases ai
       · cases ai
     · cases ai
theorem aaE {t : TypeId} {fs : Array Field} {ks : List Nat} (hd : C.P.underlying t = some (.struct fs)) (hs : C.structEq t = some ks) {xs cN : List V} {nC nD : List Value} (hx : a6 fid G w xs nC) (hy : a6 fid G w cN nD)
  {e : Bool} (he : jC ks xs cN = some e) (neg : Bool) (vx tH : Operand) :
  (do eqGuard (if neg then .neq else .eql) t vx tH (.agg ⟨nC⟩) (.agg ⟨nD⟩); binOp (if neg then .neq else .eql) t (.agg ⟨nC⟩) (.agg ⟨nD⟩)).run C.P w = .ok (.bool (if neg then !e else e)) w := by
 unfold Ctx.structEq at hs
 rw [hd] at hs
 simp only at hs
 split at hs
 · rename_i hc
   simp only [cd, pZ] at hc
   have ae : C.P.fieldsOf t = fs := by unfold Program.fieldsOf; rw [hd]
   have key : (Op.equalIn 10000 t (.agg ⟨nC⟩) (.agg ⟨nD⟩)).run C.P w = .ok e w := by
    rw [run_equalIn_struct (P := C.P) w 9999 t _ _ (by rw [ae]; exact hd) hc.1, ae]
    exact KK hx hy 9997 fs.toList 0 ks e hs (by simpa using he)
   rw [Sem.run_bind, run_eqGuard_agg w _ t vx tH _ _ hc.2]
   cases neg
   · simp only [gX, if_false, Result.andThen_ok, run_eql_struct, key]
   · simp only [if_true, Result.andThen_ok, run_neq_struct, key]
 · cases hs
theorem aaF (aa : bb C fid G H w) (aM : fh C fid vars G w ag ρ) {BW : BinOp} {t e5 : TypeId} {x y : Operand} (ho : o.op = .binOp BW t x y e5) (hc : C.cI vars pos o.op = some c7) (he : step ag H low c7 = some (v, H', low')) :
  dh C fid G H w low ((execOp ρ o).run C.P w) v H' low' := by
 rw [ho] at hc
 simp only [Ctx.cI] at hc
 split at hc
 · rename_i cv km h1 h2
   have hx := aM x cv h1
   have hy := aM y km h2
   have plain : ∀ {a b : BinOp}, step ag H low (.bin BW cv km) = some (v, H', low') -> a = b -> dh C fid G H w low ((execOp ρ o).run C.P w) v H' low' := by
    intro _ _ he _
    simp only [step] at he
    obtain ⟨u, hu, he⟩ := cD.1 he
    simp only [bw] at he
    obtain ⟨rfl, rfl, rfl⟩ := he
    obtain ⟨z, aP, fg, bt⟩ := aaw (C := C) (t := t) hx hy hu
    refine .same aa (x := z) ?_ fg
    unfold execOp; rw [ho]
    simp only [bt, Sem.run_bind, Sem.run_pure, Result.andThen_ok, aP]
   have agg : ∀ (neg : Bool) {fs : Array Field}, BW = (if neg then .neq else .eql) -> C.P.underlying t = some (.struct fs) -> (C.structEq t).map (fun n => cH.w2 neg n cv km) = some c7 -> dh C fid G H w low ((execOp ρ o).run C.P w) v H' low' := by
    intro neg fs cV hd hm
    obtain ⟨n, hn, rfl⟩ := cD.1 hm
    simp only [step] at he
    split at he
    · rename_i xs cN ah e2
      obtain ⟨e, BX, he⟩ := cD.1 he
      simp only [bw] at he
      obtain ⟨rfl, rfl, rfl⟩ := he
      rw [ah] at hx; rw [e2] at hy
      obtain ⟨nC, ed, aaG⟩ := hx.BO
      obtain ⟨nD, BZ, aaH⟩ := hy.BO
      have key := aaE hd hn aaG aaH BX neg x y
      rw [<- cV] at key
      refine .same aa (x := .bool (if neg then !e else e)) ?_ (.p _ _ (.bool _))
      unfold execOp; rw [ho]
      simp only [ed, BZ]
      rw [Sem.run_bind, key]; rfl
    · cases he
   have kinds : ∀ (neg : Bool) {d : TypeDesc}, BW = (if neg then .neq else .eql) -> C.P.underlying t = some d -> Ctx.w6 d cv km (.bin BW cv km) neg = some c7 -> dh C fid G H w low ((execOp ρ o).run C.P w) v H' low' := by
    intro neg d cV hd ai
    have go : ∀ kind, c7 = .qS kind neg cv km -> kindOk kind d ->
      (kind = 3 -> ∃ c, y = .const c) -> dh C fid G H w low ((execOp ρ o).run C.P w) v H' low' := by
     intro kind ao BV tG
     subst ao
     simp only [step] at he
     obtain ⟨e, BX, he⟩ := cD.1 he
     simp only [bw] at he
     obtain ⟨rfl, rfl, rfl⟩ := he
     have bD := aay (t := t) hd hx hy BX BV
     have hb := aaz hx hy BX neg bD
     rw [<- cV] at hb
     refine .same aa (x := .bool (if neg then !e else e)) ?_ (.p _ _ (.bool _))
     unfold execOp; rw [ho]
     simp only [aaA hx hy BX tG, Sem.run_bind, Sem.run_pure, Result.andThen_ok, hb]
    unfold Ctx.w6 at ai
    split at ai
    · simp only [aA] at ai; subst ai; exact plain (a := .add) (b := .add) he rfl
    · simp only [aA] at ai; subst ai; exact plain (a := .add) (b := .add) he rfl
    · simp only [aA] at ai; exact go 0 ai.symm ⟨_, rfl⟩ (fun h => by cases h)
    · simp only [aA] at ai; exact go 1 ai.symm ⟨_, rfl⟩ (fun h => by cases h)
    · simp only [aA] at ai; exact go 2 ai.symm ⟨_, _, _, rfl⟩ (fun h => by cases h)
    · split at ai
      · rename_i aaI
        simp only [aA] at ai; exact go 3 ai.symm ⟨_, rfl⟩ (fun _ => aaB h2 aaI)
      · cases ai
    · simp only [aA] at ai; exact go 4 ai.symm rfl (fun h => by cases h)
    · cases ai
   split at hc
   · rename_i hd; exact agg false rfl hd hc
   · rename_i hd; exact agg true rfl hd hc
   · rename_i hd; exact kinds false rfl hd hc
   · rename_i hd; exact kinds true rfl hd hc
   · cases hc
   · cases hc
   · simp only [aA] at hc; subst hc; exact plain (a := .add) (b := .add) he rfl
 · cases hc
end Go.Abs
namespace Go.Abs
open Go
variable {C : Ctx} {fid : Nat -> Nat} {w w' : World} {G G' : bT} {H : Heap}
variable {vars : List Nat} {ag : aj -> V} {ρ : Operand -> Value} {low low' : Nat} {v : V} {H' : Heap} {pos : String} {c7 : cH} {o : Oper}
theorem tM {x : Value} {k : IntKind} {m : Int} {n y : Nat} {code : BoundsCode} (hx : x = .int k m) (h0 : 0 <= m) (hn : m.toNat = n) (hy : n <= y) :
  (Instr.sliceBound x y code).run C.P w = .ok n w := by
 subst hx
 have : 0 <= m /\ m <= (y : Int) := by omega
 simp only [Instr.sliceBound, asIntOf, Sem.run_bind, Sem.run_pure, Result.andThen_ok, this, and_self, if_true, hn]
theorem zM (aM : fh C fid vars G w ag ρ) {x : Option Operand} {cv : Option aj} (hx : C.oa vars x = some cv) {d n : Nat} (h : eG ag d cv = some n) :
  (x = none /\ cv = none /\ n = d) \/ ∃ y k m, x = some y /\ ρ y = .int k m /\ 0 <= m /\ m.toNat = n := by
 cases x with
 | none =>
   simp only [Ctx.oa, aA] at hx; subst hx
   simp only [eG, aA] at h
   exact .inl ⟨rfl, rfl, h.symm⟩
 | some y =>
   simp only [Ctx.oa, cD] at hx
   obtain ⟨km, hy, rfl⟩ := hx
   simp only [eG] at h
   obtain ⟨k, m, e, hm, hn⟩ := Kz h
   have := aM y km hy
   rw [e] at this
   exact .inr ⟨y, k, m, rfl, this.jm, hm, hn⟩
theorem B0 (aM : fh C fid vars G w ag ρ) {lo hi : Option Operand} {vA q2 : Option aj} (hK : C.oa vars lo = some vA) (o9 : C.oa vars hi = some q2) {QU : Bool} {len cap a b : Nat}
  (ao : eG ag 0 vA = some a) (hb : eG ag len q2 = some b) (h1 : a <= b) (h2 : b <= len) (av : len <= cap) :
  (Instr.sliceBounds QU len cap (lo.map ρ) (hi.map ρ) none).run C.P w = .ok (a, b, cap) w := by
 unfold Instr.sliceBounds
 have dC : ∀ (z : Nat × Nat × Nat), True := fun _ => trivial
 rcases zM aM o9 hb with ⟨rfl, -, rfl⟩ | ⟨y, k, m, rfl, lk, hm, hn⟩
 · rcases zM aM hK ao with ⟨rfl, -, rfl⟩ | ⟨y', bs, m', rfl, B1, mg, nG⟩
   · simp only [w1, Sem.run_bind, Sem.run_pure, Result.andThen_ok]
   · simp only [w1, r5, Sem.run_bind, Sem.run_pure, Result.andThen_ok, tM (C := C) B1 mg nG h1]
 · rcases zM aM hK ao with ⟨rfl, -, rfl⟩ | ⟨y', bs, m', rfl, B1, mg, nG⟩
   · simp only [w1, r5, Sem.run_bind, Sem.run_pure, Result.andThen_ok, tM (C := C) lk hm hn (c4 h2 av)]
   · simp only [r5, Sem.run_bind, Sem.run_pure, Result.andThen_ok, tM (C := C) lk hm hn (c4 h2 av), tM (C := C) B1 mg nG h1]
theorem KL (aM : fh C fid vars G w ag ρ) {lo hi mx : Option Operand} {vA q2 : Option aj} {m : aj} (hK : C.oa vars lo = some vA) (o9 : C.oa vars hi = some q2) (qg : C.oa vars mx = some (some m))
  {len cap a d : Nat} (ao : eG ag 0 vA = some a) (hb : eG ag d q2 = some 0) (xi : q2 ≠ none) (h1 : a <= 0) (hm : jW (ag m) = some 0) :
  (Instr.sliceBounds true len cap (lo.map ρ) (hi.map ρ) (mx.map ρ)).run C.P w = .ok (0, 0, 0) w := by
 unfold Instr.sliceBounds
 obtain rfl : a = 0 := by omega
 rcases zM aM qg (d := 0) (show eG ag 0 (some m) = some 0 from hm) with ⟨-, q, -⟩ | ⟨z, aqL, aqM, rfl, oi, QV, FI⟩
 · cases q
 · rcases zM aM o9 hb with ⟨-, q, -⟩ | ⟨y, k, m', rfl, lk, mg, nG⟩
   · exact absurd q xi
   · rcases zM aM hK ao with ⟨rfl, -, -⟩ | ⟨y', bs, aqN, rfl, B1, aaJ, aaK⟩
     · simp only [w1, r5, Sem.run_bind, Sem.run_pure, Result.andThen_ok, tM (C := C) oi QV FI (cx _), tM (C := C) lk mg nG (cx _)]
     · simp only [r5, Sem.run_bind, Sem.run_pure, Result.andThen_ok, tM (C := C) oi QV FI (cx _), tM (C := C) lk mg nG (cx _), tM (C := C) B1 aaJ aaK (cx _)]
theorem xj {t e : TypeId} (hd : C.P.underlying t = some (.slice e)) (x : Value) (lo hi mx : Option Value) : (Instr.sliceAt t x lo hi mx).run C.P w = (Instr.slice t x lo hi mx).run C.P w := by
 unfold Instr.sliceAt
 rw [Sem.run_bind, run_underlying hd]; rfl
theorem aaL {t : TypeId} (hd : C.P.underlying t = some .string) (x : Value) (lo hi mx : Option Value) : (Instr.sliceAt t x lo hi mx).run C.P w = (Instr.slice t x lo hi mx).run C.P w := by
 unfold Instr.sliceAt
 rw [Sem.run_bind, run_underlying hd]; rfl
theorem xk {t n : Nat} (hs : C.sizeOf t = some n) (w : World) : (Go.sizeOf t).run C.P w = .ok n w := by
 simp only [Ctx.sizeOf, cD] at hs
 obtain ⟨i, hi, rfl⟩ := hs
 unfold Go.sizeOf
 rw [Sem.run_bind, run_typeInfo (P := C.P) w hi]; rfl
theorem aaM (s : List UInt8) (a b : Nat) : (⟨⟨s⟩⟩ : ByteArray).extract a b = ⟨⟨(s.take b).drop a⟩⟩ := by
 apply ByteArray.ext
 rw [ByteArray.data_extract]
 apply Array.ext'
 simp [List.drop_take]
theorem aaN {es : Nat} {ds : List V} {x : Value} (h : bg fid G w (.list es ds) x) {a b : Nat} (kL : a <= b) (hb : b <= ds.length) :
  ∃ df cap, x = .slice (some df) ds.length cap /\ ds.length <= cap /\ bg fid G w (.list es ((ds.take b).drop a)) (.slice (if cap = a then some df else some (df.add (a * es))) (b - a) (cap - a)) := by
 obtain ⟨df, cap, rfl, hz, bD⟩ := h.vy
 refine ⟨df, cap, rfl, hz, ?_⟩
 have hlen : ((ds.take b).drop a).length = b - a := by simp; omega
 by_cases hn : (ds.take b).drop a = []
 · have aaO : b - a = 0 := by rw [<- hlen, hn]; rfl
   rw [hn, aaO]
   split
   · exact .p _ _ (.tB _ _ _)
   · exact .p _ _ (.tB _ _ _)
 · have aH : a < b := by
    rcases gg a b with q | q
    · exact q
    · exact absurd (JE.1 (by omega)) hn
   rcases bD with rfl | ⟨zN, o', vals, rfl, aZ, hc, hu, hr⟩
   · simp at hn
   · rw [if_neg (by omega), Addr.add_lit]
     have FJ : ∀ d ∈ ds.take b, (aG d).length = es := fun d hd => hu d (Bv hd)
     have key := fE.list (w := w) (I := G.I) es ((ds.take b).drop a) zN (o' + a * es) (cap - a) ((vals.take (b * es)).drop (a * es)) aZ ((hc.take _).drop _)
      (fun d hd => FJ d (E9 hd)) (by
        rw [xb FJ, zE hu]
        exact (hr.take _).drop _) (by rw [hlen]; omega)
     rw [hlen] at key
     exact .p _ _ key
theorem aaP (aa : bb C fid G H w) (aM : fh C fid vars G w ag ρ) {t : TypeId} {x : Operand} {lo hi mx : Option Operand} (ho : o.op = .slice t x lo hi mx) (hc : C.cI vars pos o.op = some c7) (he : step ag H low c7 = some (v, H', low')) :
  dh C fid G H w low ((execOp ρ o).run C.P w) v H' low' := by
 rw [ho] at hc
 have cf : (execOp ρ o).run C.P w = ((Instr.sliceAt t (ρ x) (lo.map ρ) (hi.map ρ) (mx.map ρ)).run C.P w).andThen fun z w' => .ok (.value z) w' := by
  unfold execOp; rw [ho]; simp only [Sem.run_bind]; rfl
 simp only [Ctx.cI] at hc
 split at hc
 · rename_i cv vA q2 hd h2 hK o9 qg
   simp only [aA] at hc; subst hc
   have af := aM x cv h2
   simp only [step] at he
   split at he
   · rename_i s ah
     split at he
     · rename_i a b ao hb
       split at he
       · rename_i hle
         simp only [aA, bw] at he
         obtain ⟨rfl, rfl, rfl⟩ := he
         rw [ah] at af
         obtain rfl : mx = none := by
          cases mx with
          | none => rfl
          | some y => simp [Ctx.oa] at qg
         have h3 := B0 (C := C) (QU := false) (cap := s.length) aM hK o9 ao hb hle.1 hle.2 (aK _)
         refine .same aa (x := .string ⟨⟨(s.take b).drop a⟩⟩) ?_ (.p _ _ (.str _))
         rw [cf, aaL hd, af.og]
         unfold Instr.slice
         have aaQ : (⟨⟨s⟩⟩ : ByteArray).size = s.length := rfl
         simp only [Sem.run_bind, run_underlying hd, Result.andThen_ok, w1, Option.isSome_none, gX, if_false, aaQ, h3, Sem.run_pure, aaM]
       · cases he
     · cases he
   · cases he
 · rename_i e cv vA q2 FK hd h2 hK o9 qg
   split at hc
   · rename_i n hn
     split at hc
     · cases hc
     · rename_i mM
       simp only [aA] at hc; subst hc
       have af := aM x cv h2
       have ld := xk (C := C) hn
       have aaR : q2.isNone = true -> FK.isSome = true -> False := by
        intro h1 h2; simp [h1, h2] at mM
       have KM : ∀ {q : Option aj}, C.oa vars mx = some q -> q = none -> mx = none := by
        intro q h1 h2
        cases mx with
        | none => rfl
        | some y => simp [Ctx.oa, h2] at h1
       have KN : ∀ {m : aj}, FK = some m -> q2 ≠ none := by
        rintro m rfl rfl
        exact aaR rfl rfl
       have QW : ∀ {cap : Nat}, 0 <= cap -> eG ag 0 vA = some 0 -> eG ag 0 q2 = some 0 -> eG ag 0 FK = some 0 -> (Instr.sliceBounds true 0 0 (lo.map ρ) (hi.map ρ) (mx.map ρ)).run C.P w = .ok (0, 0, 0) w := by
        intro _ _ ao hb hm
        cases bD : FK with
        | none =>
          rw [bD] at qg
          rw [KM qg rfl]
          exact B0 (C := C) aM hK o9 ao hb (aK _) (aK _) (aK _)
        | some m =>
          rw [bD] at qg hm
          exact KL (C := C) aM hK o9 qg ao hb (KN bD) (aK _) hm
       simp only [step] at he
       split at he
       · rename_i ah
         split at he
         · rename_i ao hb hm
           simp only [aA, bw] at he
           obtain ⟨rfl, rfl, rfl⟩ := he
           rw [ah] at af
           refine .same aa (x := .slice none 0 0) ?_ (.p _ _ .c0)
           rw [cf, xj hd, af.jF]
           unfold Instr.slice
           simp only [Sem.run_bind, run_underlying hd, Result.andThen_ok, QW (cap := 0) (cx _) ao hb hm, ld, Sem.run_pure]
           rfl
         · cases he
       · rename_i ah
         split at he
         · rename_i ao hb hm
           simp only [aA, bw] at he
           obtain ⟨rfl, rfl, rfl⟩ := he
           rw [ah] at af
           obtain ⟨df, hx⟩ := af.qY
           refine .same aa (x := .slice (some df) 0 0) ?_ (.p _ _ (.emp _))
           rw [cf, xj hd, hx]
           unfold Instr.slice
           simp only [Sem.run_bind, run_underlying hd, Result.andThen_ok, QW (cap := 0) (cx _) ao hb hm, ld, Sem.run_pure]
           rfl
         · cases he
       · rename_i bC ds ah
         split at he
         · rename_i a b ao hb
           split at he
           · rename_i hle
             obtain ⟨kL, lS, rfl⟩ := hle
             rw [ah] at af
             obtain ⟨df, cap, hx, hz, fg⟩ := aaN af kL lS
             split at he
             · simp only [aA, bw] at he
               obtain ⟨rfl, rfl, rfl⟩ := he
               obtain rfl := KM qg rfl
               refine .same aa ?_ fg
               rw [cf, xj hd, hx]
               unfold Instr.slice
               simp only [Sem.run_bind, run_underlying hd, Result.andThen_ok, w1, B0 (C := C) aM hK o9 ao hb kL lS hz, ld, Sem.run_pure]
               rfl
             · rename_i m
               split at he
               · rename_i hm
                 obtain ⟨fB, rfl⟩ := hm
                 simp only [aA, bw] at he
                 obtain ⟨rfl, rfl, rfl⟩ := he
                 refine .same aa (x := .slice (some df) 0 0) ?_ (.p _ _ (.emp _))
                 rw [cf, xj hd, hx]
                 unfold Instr.slice
                 simp only [Sem.run_bind, run_underlying hd, Result.andThen_ok, KL (C := C) aM hK o9 qg ao hb (KN rfl) kL fB, ld, Sem.run_pure]
                 rfl
               · cases he
           · cases he
         · cases he
       · rename_i l bC off len tag ah
         split at he
         · rename_i a b ao hb
           split at he
           · rename_i hle
             obtain ⟨kL, lS, rfl⟩ := hle
             rw [ah] at af
             obtain ⟨h0, df, cL, cap, du, qX, jn, hx⟩ := af.o7
             split at he
             · split at he
               · rename_i eQ ds dW hl
                 split at he
                 · rename_i en
                   obtain ⟨fK, rfl⟩ := en
                   obtain rfl := KM qg rfl
                   obtain ⟨aT, eS, hr⟩ := aa.obj l h0 du
                   rw [hl] at eS; cases eS
                   obtain ⟨rfl, rfl, fA, qh⟩ := jn (hr.1.trans fK)
                   split at he
                   · rename_i aH
                     simp only [aA, bw] at he
                     obtain ⟨rfl, rfl, rfl⟩ := he
                     refine .same aa (x := .slice (some ⟨h0.b, (off + a) * eQ, none⟩) (b - a) (cap - a)) ?_ (.cQ l eQ (off + a) (b - a) tag h0 _ _ _ du qX (fun _ => ⟨rfl, rfl, ?_, by omega⟩))
                     · rw [cf, xj hd, hx]
                       unfold Instr.slice
                       simp only [Sem.run_bind, run_underlying hd, Result.andThen_ok, w1, B0 (C := C) aM hK o9 ao hb kL lS qh, ld, Sem.run_pure]
                       rw [if_neg (by omega), r5, Addr.add_lit, tl]
                     · have : off + a + (cap - a) = off + cap := by omega
                       rw [this]; exact fA
                   · rename_i aH
                     simp only [aA, bw] at he
                     obtain ⟨rfl, rfl, rfl⟩ := he
                     obtain rfl : a = b := by omega
                     have key : ∀ (q : Addr), bg fid G w (.list eQ []) (.slice (some q) (a - a) (cap - a)) := fun q => by rw [Nat.sub_self]; exact .p _ _ (.tB _ _ _)
                     refine .same aa (x := .slice (if cap = a then some ⟨h0.b, off * eQ, none⟩ else some (Addr.add ⟨h0.b, off * eQ, none⟩ (a * eQ))) (a - a) (cap - a)) ?_ (by split <;> exact key _)
                     rw [cf, xj hd, hx]
                     unfold Instr.slice
                     simp only [Sem.run_bind, run_underlying hd, Result.andThen_ok, w1, B0 (C := C) aM hK o9 ao hb kL lS qh, ld, Sem.run_pure]
                     rfl
                 · cases he
               · cases he
             · rename_i m
               split at he
               · rename_i hm
                 obtain ⟨fB, rfl⟩ := hm
                 simp only [aA, bw] at he
                 obtain ⟨rfl, rfl, rfl⟩ := he
                 refine .same aa (x := .slice (some df) 0 0) ?_ (.p _ _ (.emp _))
                 rw [cf, xj hd, hx]
                 unfold Instr.slice
                 simp only [Sem.run_bind, run_underlying hd, Result.andThen_ok, KL (C := C) aM hK o9 qg ao hb (KN rfl) kL fB, ld, Sem.run_pure]
                 rfl
               · cases he
           · cases he
         · cases he
       · cases he
   · cases hc
 · cases hc
end Go.Abs
