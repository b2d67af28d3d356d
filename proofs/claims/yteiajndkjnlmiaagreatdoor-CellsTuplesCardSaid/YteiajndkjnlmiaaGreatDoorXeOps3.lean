/- Comparisons, arithmetic, slices of strings and lists, lengths. -/
import Derived.Test.YteiajndkjnlmiaaGreatDoorXeOps2
import Derived.Laws.StructEq
set_option linter.unusedVariables false
set_option linter.unusedSimpArgs false
namespace Go.Abs
open Go
variable {C : Ctx} {fid : Nat → Nat} {w w' : World} {G G' : Gh} {H : Heap}
variable {vars : List Nat} {ev : Opd → V} {ρ : Operand → Value} {low low' : Nat} {v : V} {H' : Heap} {pos : String} {aop : AOp} {o : Oper}

theorem bytes_beq (s t : List UInt8) : ((⟨⟨s⟩⟩ : ByteArray).toList == (⟨⟨t⟩⟩ : ByteArray).toList) = (s == t) := by
  rw [ByteArray.toList_eq, ByteArray.toList_eq]

theorem binOp_run {op : BinOp} {t : TypeId} {a b u : V} {x y : Value} (ha : VRel fid G w a x) (hb : VRel fid G w b y) (hu : binA op a b = some u) :
    ∃ z, (binOp op t x y).run C.P w = .ok z w ∧ VRel fid G w u z ∧ ∀ (px py : Operand), eqGuard op t px py x y = pure () := by
  unfold binA at hu
  split at hu
  · rename_i k a' k' b'
    split at hu
    · rename_i hc
      simp only [Option.some.injEq] at hu; subst hu
      rw [ha.intInv, hb.intInv]
      refine ⟨.int k (k.wrap (a' * 2 ^ b'.toNat)), ?_, .p _ _ (.int _ _), fun _ _ => rfl⟩
      simp only [binOp, Op.shift, Int.not_lt.2 hc.1, if_false, Nat.min_eq_left hc.2, Sem.run_pure]
    · cases hu
  · rename_i k a' k' b'
    split at hu
    · rename_i hc
      simp only [Option.some.injEq] at hu; subst hu
      rw [ha.intInv, hb.intInv]
      refine ⟨.int k (a' / 2 ^ b'.toNat), ?_, .p _ _ (.int _ _), fun _ _ => rfl⟩
      have h2 : (0 : Int) ≤ 2 ^ b'.toNat := Int.pow_nonneg (by decide)
      simp only [binOp, Op.shift, Int.not_lt.2 hc.1, if_false, Nat.min_eq_left hc.2, Sem.run_pure, Int.fdiv_eq_ediv_of_nonneg _ h2]
    · cases hu
  · rename_i k a' k' b' hs1 hs2
    split at hu
    · cases hu
    · rename_i hk
      have hk : k = k' := by simpa using hk
      subst hk
      rw [ha.intInv, hb.intInv]
      have hg : ∀ (px py : Operand), eqGuard op t px py (.int k a') (.int k b') = pure () := fun _ _ => by cases op <;> rfl
      cases op <;> dsimp only at hu <;>
        first
        | (cases hu; done)
        | (simp only [Option.some.injEq] at hu; subst hu
           refine ⟨_, ?_, .p _ _ (.int _ _), hg⟩
           simp only [binOp, ne_eq, not_true, if_false, Op.intArith, Op.intBits, Sem.run_pure]; done)
        | (simp only [Option.some.injEq] at hu; subst hu
           refine ⟨_, ?_, .p _ _ (.bool _), hg⟩
           simp only [binOp, ne_eq, not_true, if_false, Op.intCmp, Sem.run_pure]; done)
        | (split at hu
           · cases hu
           · rename_i hz
             simp only [Option.some.injEq] at hu; subst hu
             refine ⟨_, ?_, .p _ _ (.int _ _), hg⟩
             simp only [binOp, ne_eq, not_true, if_false, Op.intDiv, hz, Sem.run_pure])
  · rename_i a' b'
    split at hu
    · rename_i hc
      simp only [Option.some.injEq] at hu; subst hu
      rw [ha.strInv, hb.strInv]
      refine ⟨.string ⟨⟨a' ++ b'⟩⟩, ?_, .p _ _ (.str _), fun _ _ => rfl⟩
      have hsz : ¬ ((((⟨⟨a'⟩⟩ : ByteArray).size + (⟨⟨b'⟩⟩ : ByteArray).size : Nat) : Int) > IntKind.i64.max) := by
        rw [IntKind.max_i64]
        have e1 : (⟨⟨a'⟩⟩ : ByteArray).size = a'.length := rfl
        have e2 : (⟨⟨b'⟩⟩ : ByteArray).size = b'.length := rfl
        rw [e1, e2]; omega
      have hcat : (⟨⟨a'⟩⟩ : ByteArray) ++ (⟨⟨b'⟩⟩ : ByteArray) = ⟨⟨a' ++ b'⟩⟩ := by
        apply ByteArray.ext
        rw [ByteArray.data_append]
        simp
      simp only [binOp, Op.stringOp, hsz, if_false, hcat, Sem.run_pure]
    · cases hu
  · rename_i a' b'
    simp only [Option.some.injEq] at hu; subst hu
    rw [ha.strInv, hb.strInv]
    refine ⟨.bool (a' == b'), ?_, .p _ _ (.bool _), fun _ _ => rfl⟩
    simp only [binOp, Op.stringOp, bytes_beq, Sem.run_pure]
  · rename_i a' b'
    simp only [Option.some.injEq] at hu; subst hu
    rw [ha.strInv, hb.strInv]
    refine ⟨.bool (a' != b'), ?_, .p _ _ (.bool _), fun _ _ => rfl⟩
    simp only [binOp, Op.stringOp, bytes_beq, Sem.run_pure, bne]
  · cases hu

theorem VRel.nilpInv {x : Value} (h : VRel fid G w .nilp x) : x = .pointer none := by cases h with | p _ _ h => cases h; rfl
theorem VRel.nil0Inv {x : Value} (h : VRel fid G w .nil0 x) : x = .slice none 0 0 := by cases h with | p _ _ h => cases h; rfl
theorem VRel.empInv {x : Value} (h : VRel fid G w .emp x) : ∃ a, x = .slice (some a) 0 0 := by cases h with | p _ _ h => cases h; exact ⟨_, rfl⟩
theorem VRel.nilfInv {x : Value} (h : VRel fid G w .nilf x) : x = .nilFunc := by cases h with | p _ _ h => cases h; rfl
theorem VRel.niliInv {x : Value} (h : VRel fid G w .nili x) : x = .nilIface := by cases h with | p _ _ h => cases h; rfl
theorem VRel.nilmInv {x : Value} (h : VRel fid G w .nilm x) : x = .map none := by cases h with | p _ _ h => cases h; rfl
theorem VRel.ifaceInv {x : Value} {t : Nat} {v : V} (h : VRel fid G w (.iface t v) x) : ∃ y, x = .iface t y ∧ VRel fid G w v y := by
  cases h with
  | p _ _ h => cases h with | iface _ _ y h => exact ⟨y, rfl, .p _ _ h⟩
  | iface _ _ y h => exact ⟨y, rfl, h⟩
theorem VRel.listInv {x : Value} {es : Nat} {ds : List V} (h : VRel fid G w (.list es ds) x) :
    ∃ a cap, x = .slice (some a) ds.length cap ∧ ds.length ≤ cap ∧ (ds = [] ∨ ∃ b o vals, a = ⟨b, o, none⟩ ∧ G.I b ∧ CellsAt w b o vals ∧ (∀ d ∈ ds, (cellsV d).length = es) ∧ PRels w G.I (ds.flatMap cellsV) vals) := by
  cases h with
  | p _ _ h => cases h with
    | list0 _ a cap => exact ⟨a, cap, rfl, Nat.zero_le _, .inl rfl⟩
    | list _ _ b o cap vals hI hc hu hr hl => exact ⟨_, cap, rfl, hl, .inr ⟨b, o, vals, rfl, hI, hc, hu, hr⟩⟩

def kindOk : Nat → TypeDesc → Prop
  | 0, d => ∃ t', d = .pointer t'
  | 1, d => ∃ t', d = .slice t'
  | 2, d => ∃ p r b, d = .func p r b
  | 3, d => ∃ m, d = .interface m
  | 4, d => d = .bool
  | _, _ => False

theorem equal_run {t : TypeId} {d : TypeDesc} (hd : C.P.underlying t = some d) {kind : Nat} {a b : V} {e : Bool} {x y : Value} (ha : VRel fid G w a x) (hb : VRel fid G w b y) (hu : nilEqA kind a b = some e)
    (hk : kindOk kind d) :
    (Op.equal t x y).run C.P w = .ok e w := by
  show (Op.equalIn (9999 + 1) t x y).run C.P w = .ok e w
  generalize 9999 = depth
  unfold nilEqA at hu
  split at hu
  · simp only [Option.some.injEq] at hu; subst hu
    obtain ⟨t', rfl⟩ := hk
    rw [ha.nilpInv, hb.nilpInv]
    simp [Op.equalIn, run_underlying hd]
  · simp only [Option.some.injEq] at hu; subst hu
    obtain ⟨t', rfl⟩ := hk
    obtain ⟨h0, -, -, rfl⟩ := ha.ptrInv
    rw [hb.nilpInv]
    simp [Op.equalIn, run_underlying hd]
  · simp only [Option.some.injEq] at hu; subst hu
    obtain ⟨t', rfl⟩ := hk
    obtain ⟨h0, -, -, rfl⟩ := hb.ptrInv
    rw [ha.nilpInv]
    simp [Op.equalIn, run_underlying hd]
  · simp only [Option.some.injEq] at hu; subst hu
    obtain ⟨t', rfl⟩ := hk
    rw [ha.nil0Inv, hb.nil0Inv]
    simp [Op.equalIn, run_underlying hd]
  · simp only [Option.some.injEq] at hu; subst hu
    obtain ⟨t', rfl⟩ := hk
    obtain ⟨_, rfl⟩ := ha.empInv
    rw [hb.nil0Inv]
    simp [Op.equalIn, run_underlying hd]
  · simp only [Option.some.injEq] at hu; subst hu
    obtain ⟨t', rfl⟩ := hk
    obtain ⟨_, _, rfl, -⟩ := ha.listInv
    rw [hb.nil0Inv]
    simp [Op.equalIn, run_underlying hd]
  · simp only [Option.some.injEq] at hu; subst hu
    obtain ⟨t', rfl⟩ := hk
    obtain ⟨_, _, _, _, -, -, -, rfl⟩ := ha.srefInv
    rw [hb.nil0Inv]
    simp [Op.equalIn, run_underlying hd]
  · simp only [Option.some.injEq] at hu; subst hu
    obtain ⟨p, r, b', rfl⟩ := hk
    rw [ha.nilfInv, hb.nilfInv]
    simp [Op.equalIn, run_underlying hd]
  · simp only [Option.some.injEq] at hu; subst hu
    obtain ⟨p, r, b', rfl⟩ := hk
    obtain ⟨_, _, -, -, rfl⟩ := ha.fnInv
    rw [hb.nilfInv]
    simp [Op.equalIn, run_underlying hd]
  · simp only [Option.some.injEq] at hu; subst hu
    obtain ⟨m, rfl⟩ := hk
    rw [ha.niliInv, hb.niliInv]
    simp [Op.equalIn, run_underlying hd]
  · simp only [Option.some.injEq] at hu; subst hu
    obtain ⟨m, rfl⟩ := hk
    obtain ⟨_, rfl, -⟩ := ha.ifaceInv
    rw [hb.niliInv]
    simp [Op.equalIn, run_underlying hd]
  · simp only [Option.some.injEq] at hu; subst hu
    subst hk
    rw [ha.boolInv, hb.boolInv]
    simp [Op.equalIn, run_underlying hd]
  · cases hu

theorem binOp_eql_run {t : TypeId} {kind : Nat} {a b : V} {e : Bool} {x y : Value} (ha : VRel fid G w a x) (hb : VRel fid G w b y) (hu : nilEqA kind a b = some e) (neg : Bool)
    (hq : (Op.equal t x y).run C.P w = .ok e w) :
    (binOp (if neg then .neq else .eql) t x y).run C.P w = .ok (.bool (if neg then !e else e)) w := by
  have key : binOp (if neg then .neq else .eql) t x y = (do let q ← Op.equal t x y; pure (.bool (if neg then !q else q))) := by
    unfold nilEqA at hu
    split at hu
    · rw [ha.nilpInv, hb.nilpInv]; cases neg <;> rfl
    · obtain ⟨h0, -, -, rfl⟩ := ha.ptrInv; rw [hb.nilpInv]; cases neg <;> rfl
    · obtain ⟨h0, -, -, rfl⟩ := hb.ptrInv; rw [ha.nilpInv]; cases neg <;> rfl
    · rw [ha.nil0Inv, hb.nil0Inv]; cases neg <;> rfl
    · obtain ⟨_, rfl⟩ := ha.empInv; rw [hb.nil0Inv]; cases neg <;> rfl
    · obtain ⟨_, _, rfl, -⟩ := ha.listInv; rw [hb.nil0Inv]; cases neg <;> rfl
    · obtain ⟨_, _, _, _, -, -, -, rfl⟩ := ha.srefInv; rw [hb.nil0Inv]; cases neg <;> rfl
    · rw [ha.nilfInv, hb.nilfInv]; cases neg <;> rfl
    · obtain ⟨_, _, -, -, rfl⟩ := ha.fnInv; rw [hb.nilfInv]; cases neg <;> rfl
    · rw [ha.niliInv, hb.niliInv]; cases neg <;> rfl
    · obtain ⟨_, rfl, -⟩ := ha.ifaceInv; rw [hb.niliInv]; cases neg <;> rfl
    · rw [ha.boolInv, hb.boolInv]; cases neg <;> rfl
    · cases hu
  rw [key, Sem.run_bind, hq]
  cases neg <;> rfl

theorem eqGuard_nilEq {op : BinOp} {t : TypeId} {kind : Nat} {a b : V} {e : Bool} {x y : Value} {px py : Operand} (ha : VRel fid G w a x) (hb : VRel fid G w b y) (hu : nilEqA kind a b = some e)
    (hc : kind = 3 → ∃ c, py = .const c) : eqGuard op t px py x y = pure () := by
  unfold nilEqA at hu
  split at hu
  · rw [ha.nilpInv, hb.nilpInv]; cases op <;> rfl
  · obtain ⟨h0, -, -, rfl⟩ := ha.ptrInv; rw [hb.nilpInv]; cases op <;> rfl
  · obtain ⟨h0, -, -, rfl⟩ := hb.ptrInv; rw [ha.nilpInv]; cases op <;> rfl
  · rw [ha.nil0Inv, hb.nil0Inv]; cases op <;> rfl
  · obtain ⟨_, rfl⟩ := ha.empInv; rw [hb.nil0Inv]; cases op <;> rfl
  · obtain ⟨_, _, rfl, -⟩ := ha.listInv; rw [hb.nil0Inv]; cases op <;> rfl
  · obtain ⟨_, _, _, _, -, -, -, rfl⟩ := ha.srefInv; rw [hb.nil0Inv]; cases op <;> rfl
  · rw [ha.nilfInv, hb.nilfInv]; cases op <;> rfl
  · obtain ⟨_, _, -, -, rfl⟩ := ha.fnInv; rw [hb.nilfInv]; cases op <;> rfl
  · rw [ha.niliInv, hb.niliInv]
    obtain ⟨c, rfl⟩ := hc rfl
    unfold eqGuard
    cases op <;> simp
  · obtain ⟨_, rfl, -⟩ := ha.ifaceInv; rw [hb.niliInv]; cases op <;> rfl
  · rw [ha.boolInv, hb.boolInv]; cases op <;> rfl
  · cases hu

theorem opd_nilConst {y : Operand} {ay : Opd} (h : C.opd vars y = some ay) (hn : Ctx.isNilConst ay = true) : ∃ c, y = .const c := by
  cases y with
  | const c => exact ⟨c, rfl⟩
  | tmp t =>
    simp only [Ctx.opd, Option.some.injEq] at h; subst h
    split at hn <;> simp [Ctx.isNilConst] at hn
  | func f =>
    simp only [Ctx.opd, Option.map_eq_some_iff] at h
    obtain ⟨_, -, rfl⟩ := h
    simp [Ctx.isNilConst] at hn
  | global g => simp [Ctx.opd] at h

theorem eqK_run {t : TypeId} {k : Nat} (hk : C.kindT t = some k) {a b : V} {x y : Value} {e : Bool} (ha : VRel fid G w a x) (hb : VRel fid G w b y) (he : eqK k a b = some e) (d : Nat) :
    (Op.equalIn (d + 1) t x y).run C.P w = .ok e w := by
  unfold Ctx.kindT at hk
  unfold eqK at he
  split at he
  · split at he
    · rename_i hkk
      simp only [Option.some.injEq] at he; subst he; subst hkk
      rw [ha.intInv, hb.intInv]
      split at hk <;> rename_i hd <;> simp at hk
      exact run_equalIn_int w d t _ _ _ _ hd
    · cases he
  · simp only [Option.some.injEq] at he; subst he
    rw [ha.strInv, hb.strInv]
    split at hk <;> rename_i hd <;> simp at hk
    rw [run_equalIn_string w d t _ _ hd, bytes_beq]
  · simp only [Option.some.injEq] at he; subst he
    rw [ha.boolInv, hb.boolInv]
    split at hk <;> rename_i hd <;> simp at hk
    exact run_equalIn_bool' w d t _ _ hd
  · cases he

theorem kindT_plain {t : TypeId} {k : Nat} (hk : C.kindT t = some k) (w : World) : (isAgg t).run C.P w = .ok false w := by
  unfold Ctx.kindT at hk
  unfold isAgg
  split at hk <;> rename_i hd <;> first | (cases hk; done) | (rw [Sem.run_bind, run_underlying hd]; rfl)

theorem eqFields_run {xs ys : List V} {vx vy : List Value} (hx : VRels fid G w xs vx) (hy : VRels fid G w ys vy) (d : Nat) : ∀ (fs : List Field) (i : Nat) (ks : List Nat) (e : Bool), C.eqKinds i fs = some ks →
    eqCells ks (xs.drop i) (ys.drop i) = some e → (Op.eqFields (d + 1) ⟨vx⟩ ⟨vy⟩ fs).run C.P w = .ok e w
  | [], i, ks, e, hk, he => by
    simp only [Ctx.eqKinds, Option.some.injEq] at hk; subst hk
    unfold eqCells at he
    split at he
    · simp only [Option.some.injEq] at he; subst he; rfl
    · simp_all
    · cases he
  | f :: fs, i, ks, e, hk, he => by
    simp only [Ctx.eqKinds] at hk
    split at hk
    · rename_i k hkf
      split at hk
      · rename_i hc
        simp only [Bool.and_eq_true, bne_iff_ne, ne_eq, beq_iff_eq] at hc
        obtain ⟨ks', hks, rfl⟩ := Option.map_eq_some_iff.1 hk
        cases hxd : xs.drop i with
        | nil => rw [hxd] at he; simp [eqCells] at he
        | cons a xr =>
          cases hyd : ys.drop i with
          | nil => rw [hxd, hyd] at he; simp [eqCells] at he
          | cons b yr =>
            rw [hxd, hyd] at he
            simp only [eqCells] at he
            have ax : xs[i]? = some a := by have := congrArg (·[0]?) hxd; simpa using this
            have ay : ys[i]? = some b := by have := congrArg (·[0]?) hyd; simpa using this
            have xr' : xs.drop (i + 1) = xr := by have := congrArg (List.drop 1) hxd; simpa [List.drop_drop] using this
            have yr' : ys.drop (i + 1) = yr := by have := congrArg (List.drop 1) hyd; simpa [List.drop_drop] using this
            obtain ⟨va, hva, ra⟩ := hx.get ax
            obtain ⟨vb, hvb, rb⟩ := hy.get ay
            split at he
            · rename_i e1 he1
              split at he
              · rename_i e2 he2
                simp only [Option.some.injEq] at he; subst he
                rw [← xr', ← yr'] at he2
                have ih := eqFields_run hx hy d fs (i + 1) ks' e2 hks he2
                have hp : ∀ (l : List Value) (z : Value), l[i]? = some z → (part f.type ⟨l⟩ f.offset).run C.P w = .ok z w := by
                  intro l z hz
                  unfold part
                  simp only [Sem.run_bind, kindT_plain hkf, Result.andThen_ok, Bool.false_eq_true, if_false, hc.2, List.getElem?_toArray, hz, Sem.run_pure]
                simp only [Op.eqFields, hc.1, ne_eq, not_false_eq_true, if_true, Sem.run_bind, hp vx va hva, hp vy vb hvb, Result.andThen_ok, eqK_run hkf ra rb he1 d, Sem.run_ite, Sem.run_pure, ih]
                cases e1 <;> simp
              · cases he
            · cases he
      · cases hk
    · cases hk

theorem eqCells_run {t : TypeId} {fs : Array Field} {ks : List Nat} (hd : C.P.underlying t = some (.struct fs)) (hs : C.structEq t = some ks) {xs ys : List V} {vx vy : List Value} (hx : VRels fid G w xs vx) (hy : VRels fid G w ys vy)
    {e : Bool} (he : eqCells ks xs ys = some e) (neg : Bool) (px py : Operand) :
    (do eqGuard (if neg then .neq else .eql) t px py (.agg ⟨vx⟩) (.agg ⟨vy⟩); binOp (if neg then .neq else .eql) t (.agg ⟨vx⟩) (.agg ⟨vy⟩)).run C.P w = .ok (.bool (if neg then !e else e)) w := by
  unfold Ctx.structEq at hs
  rw [hd] at hs
  simp only at hs
  split at hs
  · rename_i hc
    simp only [Bool.and_eq_true, Bool.not_eq_true'] at hc
    have hf : C.P.fieldsOf t = fs := by unfold Program.fieldsOf; rw [hd]
    have key : (Op.equalIn 10000 t (.agg ⟨vx⟩) (.agg ⟨vy⟩)).run C.P w = .ok e w := by
      rw [run_equalIn_struct (P := C.P) w 9999 t _ _ (by rw [hf]; exact hd) hc.1, hf]
      exact eqFields_run hx hy 9998 fs.toList 0 ks e hs (by simpa using he)
    rw [Sem.run_bind, run_eqGuard_agg w _ t px py _ _ hc.2]
    cases neg
    · simp only [Bool.false_eq_true, if_false, Result.andThen_ok, run_eql_struct, key]
    · simp only [if_true, Result.andThen_ok, run_neq_struct, key]
  · cases hs

theorem s_bin (hR : RelH C fid G H w) (hρ : OpdRel C fid vars G w ev ρ) {bop : BinOp} {t t' : TypeId} {x y : Operand} (ho : o.op = .binOp bop t x y t') (hc : C.op0 vars pos o.op = some aop) (he : step ev H low aop = some (v, H', low')) :
    Did C fid G H w low ((execOp ρ o).run C.P w) v H' low' := by
  rw [ho] at hc
  simp only [Ctx.op0] at hc
  split at hc
  · rename_i ax ay h1 h2
    have hx := hρ x ax h1
    have hy := hρ y ay h2
    have plain : ∀ {a b : BinOp}, step ev H low (.bin bop ax ay) = some (v, H', low') → a = b → Did C fid G H w low ((execOp ρ o).run C.P w) v H' low' := by
      intro _ _ he _
      simp only [step] at he
      obtain ⟨u, hu, he⟩ := Option.map_eq_some_iff.1 he
      simp only [Prod.mk.injEq] at he
      obtain ⟨rfl, rfl, rfl⟩ := he
      obtain ⟨z, hz, hrel, hg⟩ := binOp_run (C := C) (t := t) hx hy hu
      refine .same hR (x := z) ?_ hrel
      unfold execOp; rw [ho]
      simp only [hg, Sem.run_bind, Sem.run_pure, Result.andThen_ok, hz]
    have agg : ∀ (neg : Bool) {fs : Array Field}, bop = (if neg then .neq else .eql) → C.P.underlying t = some (.struct fs) → (C.structEq t).map (fun n => AOp.eqAgg neg n ax ay) = some aop → Did C fid G H w low ((execOp ρ o).run C.P w) v H' low' := by
      intro neg fs hop hd hm
      obtain ⟨n, hn, rfl⟩ := Option.map_eq_some_iff.1 hm
      simp only [step] at he
      split at he
      · rename_i xs ys e1 e2
        obtain ⟨e, hee, he⟩ := Option.map_eq_some_iff.1 he
        simp only [Prod.mk.injEq] at he
        obtain ⟨rfl, rfl, rfl⟩ := he
        rw [e1] at hx; rw [e2] at hy
        obtain ⟨vx, hx', hrx⟩ := hx.aggInv
        obtain ⟨vy, hy', hry⟩ := hy.aggInv
        have key := eqCells_run hd hn hrx hry hee neg x y
        rw [← hop] at key
        refine .same hR (x := .bool (if neg then !e else e)) ?_ (.p _ _ (.bool _))
        unfold execOp; rw [ho]
        simp only [hx', hy']
        rw [Sem.run_bind, key]; rfl
      · cases he
    have kinds : ∀ (neg : Bool) {d : TypeDesc}, bop = (if neg then .neq else .eql) → C.P.underlying t = some d → Ctx.nilKind d ax ay (.bin bop ax ay) neg = some aop → Did C fid G H w low ((execOp ρ o).run C.P w) v H' low' := by
      intro neg d hop hd hk
      have go : ∀ kind, aop = .nilEq kind neg ax ay → kindOk kind d →
          (kind = 3 → ∃ c, y = .const c) → Did C fid G H w low ((execOp ρ o).run C.P w) v H' low' := by
        intro kind ha hkk hcc
        subst ha
        simp only [step] at he
        obtain ⟨e, hee, he⟩ := Option.map_eq_some_iff.1 he
        simp only [Prod.mk.injEq] at he
        obtain ⟨rfl, rfl, rfl⟩ := he
        have hq := equal_run (t := t) hd hx hy hee hkk
        have hb := binOp_eql_run hx hy hee neg hq
        rw [← hop] at hb
        refine .same hR (x := .bool (if neg then !e else e)) ?_ (.p _ _ (.bool _))
        unfold execOp; rw [ho]
        simp only [eqGuard_nilEq hx hy hee hcc, Sem.run_bind, Sem.run_pure, Result.andThen_ok, hb]
      unfold Ctx.nilKind at hk
      split at hk
      · simp only [Option.some.injEq] at hk; subst hk; exact plain (a := .add) (b := .add) he rfl
      · simp only [Option.some.injEq] at hk; subst hk; exact plain (a := .add) (b := .add) he rfl
      · simp only [Option.some.injEq] at hk; exact go 0 hk.symm ⟨_, rfl⟩ (fun h => by cases h)
      · simp only [Option.some.injEq] at hk; exact go 1 hk.symm ⟨_, rfl⟩ (fun h => by cases h)
      · simp only [Option.some.injEq] at hk; exact go 2 hk.symm ⟨_, _, _, rfl⟩ (fun h => by cases h)
      · split at hk
        · rename_i hcst
          simp only [Option.some.injEq] at hk; exact go 3 hk.symm ⟨_, rfl⟩ (fun _ => opd_nilConst h2 hcst)
        · cases hk
      · simp only [Option.some.injEq] at hk; exact go 4 hk.symm rfl (fun h => by cases h)
      · cases hk
    split at hc
    · rename_i hd; exact agg false rfl hd hc
    · rename_i hd; exact agg true rfl hd hc
    · rename_i hd; exact kinds false rfl hd hc
    · rename_i hd; exact kinds true rfl hd hc
    · cases hc
    · cases hc
    · simp only [Option.some.injEq] at hc; subst hc; exact plain (a := .add) (b := .add) he rfl
  · cases hc

end Go.Abs
