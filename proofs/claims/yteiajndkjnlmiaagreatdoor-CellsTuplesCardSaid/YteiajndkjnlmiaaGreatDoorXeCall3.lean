/- Every call that the executor makes goes as it says. -/
import Derived.Test.YteiajndkjnlmiaaGreatDoorXeCall2
set_option linter.unusedVariables false
set_option linter.unusedSimpArgs false
namespace Go.Abs
open Go
variable {C : Ctx} {fid : Nat → Nat} {w w' : World} {G G' : Gh} {H H' : Heap} {call : CallT} {n : Nat}

theorem RelH.putFree (hR : RelH C fid G H w) {r : Nat} (hh : ∀ l h, G.β l = some h → h.b ≠ r) (hi : ¬ G.I r) (o : Obj) : RelH C fid G H (w.putObj r o) where
  obj l h e := by
    obtain ⟨o, ho, hr⟩ := hR.obj l h e
    exact ⟨o, ho, hr.mono (.refl _) (fun b hb => ⟨hb, World.putObj_heap_other fun q => hi (by rw [← q]; exact hb)⟩) (World.putObj_heap_other (hh l h e))⟩
  inj := hR.inj
  blk l h e := by rw [World.putObj_size]; exact hR.blk l h e
  imm b hb := by rw [World.putObj_size]; exact hR.imm b hb
  fzI := hR.fzI
  glob b o hg := ⟨(hR.glob b o hg).1, by rw [World.putObj_heap_other (k := b) (r := r) fun q => hi (by rw [← q]; exact (hR.glob b _ hg).1)]; exact (hR.glob b o hg).2⟩

theorem Ext.putFree {w0 : World} {G0 : Gh} {m k : Nat} (hE : Ext G0 w0 G w m k) {r : Nat} (hr : w0.heap.size ≤ r) (o : Obj) : Ext G0 w0 G (w.putObj r o) m k :=
  ⟨by rw [World.putObj_size]; exact hE.size, hE.os, hE.tape, hE.output, fun b hb hk => by rw [World.putObj_heap_other (by omega)]; exact hE.keep b hb hk, hE.homes, hE.newH, hE.imm, hE.newI⟩

/-- The blocks for the deferred calls are shut, one after the other. -/
theorem leaves_marks {fn : Func} {tmps : Array Value} {R : Ending → World → Prop} {w0 : World} {G0 : Gh} {m0 : Nat → Prop} {k0 : Nat} :
    ∀ (rs : List Nat) (w : World), rs.Nodup → (∀ r ∈ rs, MarkOk G w w0.heap.size r) → RelH C fid G H w → (∀ m, m0 m → Ext G0 w0 G w m k0) → (∀ v x, VRel fid G w v x → True) →
      (∀ w2, RelH C fid G H w2 → (∀ m, m0 m → Ext G0 w0 G w2 m k0) → (∀ {v : V} {x : Value}, VRel fid G w v x → VRel fid G w2 v x) → ∃ v, (results fn tmps).run C.P w2 = .ok v w2 ∧ R (.returned v) w2) →
      LeavesInM Fence.wide 0 C.P fn tmps R (rs.map markOf) .returning w
  | [], w, _, _, hR, hE, _, hfin => hfin w hR hE fun h => h
  | r :: rs, w, nd, hm, hR, hE, _, hfin => by
    have hr := hm r (by simp)
    have nd' := List.nodup_cons.1 nd
    refine ⟨by simp, .inl ⟨r, w.putObj r (.deferred none), rfl, run_takeDeferred hr.obj, ?_⟩⟩
    have hv : ∀ {v : V} {x : Value}, VRel fid G w v x → VRel fid G (w.putObj r (.deferred none)) v x := fun h =>
      h.mono (.refl _) fun b hb => ⟨hb, World.putObj_heap_other fun q => hr.imm (by rw [← q]; exact hb)⟩
    refine leaves_marks rs _ nd'.2 (fun q hq => ?_) (hR.putFree hr.home hr.imm _) (fun m hm => (hE m hm).putFree hr.base _) (fun _ _ _ => trivial) fun w2 a b c => hfin w2 a b fun h => c (hv h)
    have k := hm q (by simp [hq])
    have hne : q ≠ r := fun e => nd'.1 (e ▸ hq)
    exact ⟨k.base, by rw [World.putObj_size]; exact k.lt, by rw [World.putObj_heap_other hne]; exact k.obj, k.home, k.imm⟩

theorem zipE_look : ∀ (vs : List V) (i t : Nat), lookupE (zipE i vs) t = if i ≤ t then (vs[t - i]?).getD .undef else .undef
  | [], i, t => by simp [zipE, lookupE]
  | v :: r, i, t => by
    simp only [zipE, lookupE]
    by_cases h : i = t
    · subst h; simp
    · rw [if_neg h, zipE_look r (i + 1) t]
      by_cases h2 : i ≤ t
      · rw [if_pos h2, if_pos (by omega)]
        have : t - i = (t - (i + 1)) + 1 := by omega
        rw [this, List.getElem?_cons_succ]
      · rw [if_neg h2, if_neg (by omega)]

theorem func_inv {fn : Func} {fresh : Bool} {f : AFunc} (h : C.func fn fresh = some f) :
    ∃ c, fn.body = some c ∧ C.code (Ctx.varsOf fn) fn.ntmps c = some f.body ∧ mapO C.res fn.results.toList = some f.results ∧ (fn.name == "runtime.NumGoroutine") = false ∧ f.nslots = fn.ntmps ∧ f.fresh = fresh := by
  unfold Ctx.func at h
  split at h
  · rename_i c hb
    split at h
    · rename_i b rs h1 h2
      split at h
      · cases h
      · rename_i hn
        cases h
        exact ⟨c, hb, h1, h2, by simpa using hn, rfl, rfl⟩
    · cases h
  · cases h

theorem resSlots_vars {fn : Func} {t : Nat} (h : t ∈ Ctx.resSlots fn.results.toList) : t ∈ Ctx.varsOf fn := by
  unfold Ctx.varsOf
  rw [List.mem_eraseDups]
  simp [h]

theorem body_sound (hmix : C.P.follows .mixedOrders = true) (hC : CtxOk C fid) (hcall : CallOk C fid call) {fi : Nat} {f : AFunc} {fn : Func} (hf : C.P.funcs[fi]? = some fn) (hfn : C.func fn f.fresh = some f)
    {args : List V} {v : V} {low' : Nat} {xs : List Value} (he : callBody (exec call n) f args H = some (v, H', low')) (hR : RelH C fid G H w) (hv : VRels fid G w args xs) :
    Calls C.P fi ⟨xs⟩ w (fun e w' => ∃ x, e = .returned x ∧ Post C fid G H w v H' low' x w') := by
  obtain ⟨c, hb, hcode, hres, -, hns, -⟩ := func_inv hfn
  unfold callBody at he
  split at he
  · rename_i hlen
    have hxl := hv.length
    have hR0 : RelSt C fid (Ctx.varsOf fn) fn.ntmps G { tE := [], vE := zipE 0 args, H, low := H.length } { tmps := (⟨xs⟩ : Array Value) ++ Array.replicate (fn.ntmps - (⟨xs⟩ : Array Value).size) undef, defers := [] } w := by
      refine ⟨hR, fun t => ?_, ?_, Nat.le_refl _⟩
      · unfold lookS
        split
        · rw [zipE_look]
          simp only [Nat.zero_le, if_true, Nat.sub_zero]
          cases ha : args[t]? with
          | none => exact .undef _
          | some u =>
            obtain ⟨x, hx, hux⟩ := hv.get ha
            have hlt : t < xs.length := by
              rcases Nat.lt_or_ge t xs.length with h | h
              · exact h
              · simp [List.getElem?_eq_none h] at hx
            have : ((⟨xs⟩ : Array Value) ++ Array.replicate (fn.ntmps - (⟨xs⟩ : Array Value).size) undef).getD t undef = x := by
              rw [Array.getD_eq_getD_getElem?, Array.getElem?_append_left (by simpa using hlt)]
              simp [hx]
            rw [this]; exact hux
        · exact .undef _
      · simp only [Array.size_append, Array.size_replicate]
        show xs.length + (fn.ntmps - xs.length) = fn.ntmps
        rw [hxl, ← hns]; omega
    -- what is asked at the end
    have hend : ∀ (st : St) (G' : Gh) (a' : Act) (w' : World), FrS { tE := [], vE := zipE 0 args, H, low := H.length } st → (∃ vs, resultsA st.vE st.H f.results = some vs ∧ finish f.fresh H (tupV vs) st.H st.low = some (v, H', low')) →
        Fin C fid (Ctx.varsOf fn) fn.ntmps w.heap.size { tE := [], vE := zipE 0 args, H, low := H.length } G w st G' a' w' →
        LeavesInM Fence.wide 0 C.P fn a'.tmps (fun e w' => ∃ x, e = .returned x ∧ Post C fid G H w v H' low' x w') a'.defers .returning w' := by
      rintro st G' a' w' hfr ⟨vs, hr, hfi⟩ F
      obtain ⟨rs, hrs, nd, hm⟩ := F.marks
      rw [hrs]
      refine leaves_marks (m0 := fun m => m ≤ st.low) rs w' nd hm F.rel.rel F.ext (fun _ _ _ => trivial) fun w2 k1 k2 k3 => ?_
      obtain ⟨x, hx, hux⟩ := results_run hres k1 (fun t ht => by
        have := F.rel.env t
        rw [lookS_var (resSlots_vars ht)] at this
        exact k3 this) hr
      exact ⟨x, hx, x, rfl, finish_sound hR k1 k2 hfr.1 hux hfi⟩
    have htup : ∀ {st : St}, (match resultsA st.vE st.H f.results with | some [v] => finish f.fresh H v st.H st.low | some vs => finish f.fresh H (.tup vs) st.H st.low | none => none) = some (v, H', low') →
        ∃ vs, resultsA st.vE st.H f.results = some vs ∧ finish f.fresh H (tupV vs) st.H st.low = some (v, H', low') := fun {st} h => by
      split at h
      · rename_i u hr; exact ⟨[u], hr, h⟩
      · rename_i vs hne hr
        refine ⟨vs, hr, ?_⟩
        have : tupV vs = .tup vs := by
          cases vs with
          | nil => rfl
          | cons a r =>
            cases r with
            | nil => exact absurd rfl (hne a)
            | cons b r => rfl
        rw [this]; exact h
      · cases h
    have go : ∀ (X0 : X) (st : St), (X0 = .normal ∨ X0 = .ret) → exec call n f.body { tE := [], vE := zipE 0 args, H, low := H.length } = some (X0, st) →
        (∃ vs, resultsA st.vE st.H f.results = some vs ∧ finish f.fresh H (tupV vs) st.H st.low = some (v, H', low')) → Calls C.P fi ⟨xs⟩ w (fun e w' => ∃ x, e = .returned x ∧ Post C fid G H w v H' low' x w') := fun X0 st hX hex hfi => by
      refine (callsIn_wide (n := 0)).1 (callsIn_of_wp_marks hf hb trivial ?_)
      have hfr := exec_fr hcall.fr n _ _ _ _ (Nat.le_refl _) hex
      refine code_ok (n := n) hmix hC hcall c _ _ _ hcode _ _ _ hex G _ w none w.heap.size _ hR0 trivial (.nil _ _ _) (Nat.le_refl _) fun G' a' w' F => ?_
      have := hend st G' a' w' hfr hfi F
      rcases hX with rfl | rfl
      · exact this
      · exact this
    split at he
    · rename_i st hex; exact go _ st (.inl rfl) hex (htup he)
    · rename_i st hex; exact go _ st (.inr rfl) hex (htup he)
    · cases he
  · cases he

theorem callFunc_run {fi : Nat} {fn : Func} {c : Code} (hf : C.P.funcs[fi]? = some fn) (hb : fn.body = some c) (hn : (fn.name == "runtime.NumGoroutine") = false) (as : Array Value) :
    (callFunc fi as).run C.P w = .ok (.enter fi as) w := by
  unfold callFunc
  have hn' : ¬ fn.name = "runtime.NumGoroutine" := by simpa using hn
  simp [Sem.run_bind, Sem.run, program, hf, hb, hn', Result.andThen]

theorem callN_ok (hmix : C.P.follows .mixedOrders = true) (hC : CtxOk C fid) {tab : Nat → Option Fun} (hT : TabOk C fid tab) : ∀ (n : Nat), CallOk C fid (callN tab n)
  | 0 => ⟨callN_fr tab 0, fun _ _ _ he => by simp [callN] at he⟩
  | n + 1 => by
    have ih := callN_ok hmix hC hT n
    refine ⟨callN_fr tab (n + 1), fun {G H w f args v H' low' xf xs} hR hvf hva he => ?_⟩
    simp only [callN, callV] at he
    split at he
    · rename_i i first caps
      obtain ⟨fs, cs, hf1, hc1, hxf⟩ := hvf.fnInv
      subst hxf
      have hargs : VRels fid G w (first ++ args ++ caps) (fs ++ xs ++ cs) := (hf1.append hva).append hc1
      have hcallee : (invoke (.fn (.func (fid i)) ⟨cs⟩) ((⟨fs⟩ : Array Value) ++ ⟨xs⟩)).run C.P w = (callFunc (fid i) ⟨fs ++ xs ++ cs⟩).run C.P w := by
        simp [invoke]
      refine ⟨{ target := .fn (.func (fid i)) ⟨cs⟩, args := (⟨fs⟩ : Array Value) ++ ⟨xs⟩ }, rfl, ?_⟩
      rw [hcallee]
      split at he
      · rename_i fn0 htab
        obtain ⟨fn, hfn, hfun⟩ := hT.code i fn0 htab
        obtain ⟨c, hb, -, -, hname, -⟩ := func_inv hfun
        rw [callFunc_run hfn hb hname]
        exact ⟨body_sound hmix hC ih hfn hfun he hR hargs, fun _ _ => ⟨_, _, rfl⟩⟩
      · rename_i spec htab
        split at he
        · rename_i hp
          obtain ⟨u, hu, he⟩ := Option.map_eq_some_iff.1 he
          cases he
          refine ⟨hT.ext i spec htab hR (hargs.toP hp) hu, fun _ hna => ?_⟩
          rw [isPs_append, isPs_append] at hp
          simp [hna] at hp
        · cases he
      · cases he
    · rename_i l
      obtain ⟨h, hb, ht, rfl⟩ := hvf.yieldInv
      refine ⟨{ target := .fn (.yield h.b) #[], args := #[] ++ ⟨xs⟩ }, rfl, ?_, fun hfn => by simp [isFn] at hfn⟩
      have : (invoke (.fn (.yield h.b) #[]) (#[] ++ (⟨xs⟩ : Array Value))).run C.P w = (Instr.yield h.b ⟨xs⟩).run C.P w := by simp [invoke]
      rw [this]
      exact yield_sound hmix hC ih he hR hb hva
    · cases he

/-- A call, whole. -/
theorem calls_of_exec (hmix : C.P.follows .mixedOrders = true) (hC : CtxOk C fid) {tab : Nat → Option Fun} (hT : TabOk C fid tab) {n i : Nat} {f : AFunc} (hi : tab i = some (.code f)) {args : List V} {v : V} {low' : Nat} {xs : List Value}
    (he : callN tab n (.fn i [] []) args H = some (v, H', low')) (hR : RelH C fid G H w) (hv : VRels fid G w args xs) :
    Calls C.P (fid i) ⟨xs⟩ w (fun e w' => ∃ x, e = .returned x ∧ Post C fid G H w v H' low' x w') := by
  cases n with
  | zero => simp [callN] at he
  | succ n =>
    simp only [callN, callV, hi, List.nil_append, List.append_nil] at he
    obtain ⟨fn, hfn, hfun⟩ := hT.code i f hi
    exact body_sound hmix hC (callN_ok hmix hC hT n) hfn hfun he hR hv

end Go.Abs
