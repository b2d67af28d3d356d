/- Texts of this claim, joined and written short by a program. -/
import Derived.Test.YtgkcikhegodchaaGreatDoorP26
import Derived.Test.YtgkcikhegodchaaGreatDoorP00
set_option linter.unusedVariables false
set_option linter.unusedSimpArgs false
set_option linter.unusedSectionVars false
namespace Go.Abs.hv
open Go Go.Abs
section
variable{J:iT}{b:Nat}{F:cG}{fs:List V}{s s1 s2 cV:bE J}{σ cM:bY}{H H1:Heap}{G aB:Nat->List (Nat × cf)}{ρ gw:List V}{aa:Nat->Option cc}{cx:oj J}{W W':List Nat}{M M':List (Nat × Nat)}
mutual
theorem Sn{B:List Bool}:∀{v w:aR J.az} {u:V},same v w=true->b8 J B ρ fs v u->b8 J B ρ fs w u
 |v,w,u,h,af=>by
  unfold same at h;split at h
  ·split at h<;>first|exact af|cases h
  ·split at h
   ·rename_i e;rw[eU e]at af;exact af
   ·rename_i e;rw[eU e]at af;exact af
   ·cases h
  ·split at h
   ·rename_i e
    have e:=of_decide_eq_true e;have e2:=of_decide_eq_true h;subst e;subst e2;exact af
   ·cases h
  ·rw[wy _ _ h]at af;exact af
  ·split at h
   ·rename_i e;rw[eU e,eU h]at af;exact af
   ·cases h
  ·rw[eU h]at af;exact af
  ·split at h
   ·rename_i e
    cases af with
    |fn af=>rw[eU e];exact .fn (Sp h af)
   ·cases h
  ·cases af with
   |agg af=>exact .agg (Sp h af)
  ·rw[of_decide_eq_true h]at af;exact af
  ·cases h
theorem Sp{B:List Bool}:∀{vs ws:List (aR J.az)} {us:List V},Bk vs ws=true->bG J B ρ fs vs us->bG J B ρ fs ws us
 |[],[],_,_,h=>h
 |[],_::_,_,h,_=>by simp[Bk]at h
 | _::_,[],_,h,_=>by simp[Bk]at h
 |v::vs,w::ws,_,h,.cons af r=>by
  simp only[Bk]at h;split at h
  ·rename_i e;exact .cons (Sn e af) (Sp h r)
  ·cases h
end
theorem HN{α:Type}{l fB:List α}(h:l <+: fB){i:Nat}{a:α}(hi:fB[i]? =some a)(hl:i<l.length):l[i]? =some a:=by
 obtain⟨t,rfl⟩:=h;rwa [fY hl]at hi
theorem HO{i n:Nat}(h:Nat.blt i n=true):i<n:=j1 h
mutual
theorem Mm{B yU:List Bool}(dM:B <+: yU)(aU:ρ <+: gw):∀{v:aR J.az} {w:V},wf B.length ρ.length v=true->b8 J yU gw fs v w->b8 J B ρ fs v w
 | _,_,_,.int=>.int
 | _,_,_,.b2=>.b2
 | _,_,h,.bo q=>.bo (HN dM q (HO (by simpa only[wf]using h)))
 | _,_,_,.str=>.str
 | _,_,_,.sl=>.sl
 | _,_,_,.k=>.k
 | _,_,h,.agg q=>.agg (HP dM aU (by simpa only[wf]using h) q)
 | _,_,h,.aF q=>.aF (HP dM aU (by simpa only[wf]using h) q)
 | _,_,h,.dz q=>.dz (HP dM aU (by simpa only[wf]using h) q)
 | _,_,h,.ptr q=>.ptr (HN aU q (HO (by simpa only[wf]using h)))
 | _,_,h,.row q=>.row (HN aU q (HO (by simpa only[wf]using h)))
 | _,_,h,.hN q=>.hN (HN aU q (HO (by simpa only[wf]using h)))
 | _,_,h,.lC q r=>.lC (HN aU q (HO (by simpa only[wf]using h))) r
 | _,_,h,.fn q=>.fn (HP dM aU (by simpa only[wf]using h) q)
 | _,_,_,.fv q=>.fv q
 | _,_,_,.lD=>.lD
theorem HP{B yU:List Bool}(dM:B <+: yU)(aU:ρ <+: gw):∀{vs:List (aR J.az)} {ws:List V},Bl B.length ρ.length vs=true->bG J yU gw fs vs ws->bG J B ρ fs vs ws
 | _,_,_,.nil=>.nil
 | _,_,h,.cons q r=>by
   simp only[Bl]at h;split at h
   ·rename_i e;exact .cons (Mm dM aU e q) (HP dM aU h r)
   ·cases h
end
structure iE (W:List Nat) (M:List (Nat × Nat)) (s s1:bE J):Prop where
 vs:∀t,t∉W->bt s1.vs t=bt s.vs t
 aQ:s.aQ <+: s1.aQ
 aE:s.aE<=s1.aE
 mem:∀o w cs,bt s.mem o=some (.cells w cs)->∃cs',bt s1.mem o=some (.cells w cs')/\cs'.length=cs.length/\∀j:Nat,(o,j)∉M->cs'[j]? =cs[j]?
 row:∀o aY,uu aY=false->bt s.mem o=some aY->bt s1.mem o=some aY\/(o,0)∈M
theorem iE.rfl:iE W M s s:=⟨fun _ _=>Eq.refl _,ei,aN _,fun o w cs h=>⟨cs,h,Eq.refl _,fun _ _=>Eq.refl _⟩,fun _ _ _ h=>.inl h⟩
theorem iE.trans (h:iE W M s s1)(k:iE W M s1 s2):iE W M s s2 where
 vs:=fun t ht=>(k.vs t ht).trans (h.vs t ht)
 aQ:=h.aQ.trans k.aQ
 aE:=c4 h.aE k.aE
 mem:=fun o w cs hm=>by
  obtain⟨ql,h1,h2,au⟩:=h.mem o w cs hm;obtain⟨HK,b4,dq,jK⟩:=k.mem o w ql h1;exact⟨HK,b4,dq.trans h2,fun j hj=>(jK j hj).trans (au j hj)⟩
 row:=fun o aY hc hm=>(h.row o aY hc hm).elim (k.row o aY hc) .inr
theorem iE.wide (h:iE W M s s1)(hW:∀t∈W,t∈W')(jf:∀p∈M,p∈M'):iE W' M' s s1 where
 vs:=fun t ht=>h.vs t fun q=>ht (hW t q)
 aQ:=h.aQ
 aE:=h.aE
 mem:=fun o w cs hm=>by
  obtain⟨ql,h1,h2,au⟩:=h.mem o w cs hm;exact⟨ql,h1,h2,fun j hj=>au j fun q=>hj (jf _ q)⟩
 row:=fun o aY hc hm=>(h.row o aY hc hm).imp id (jf _)
theorem Fr.hg (h:Fr s s1)(lt:∀e∈s.mem,e.1<s.aE)(hW:∀t∈s1.dR,t∈W)(jf:∀o j,(o,j)∈s1.cL->o<s.aE->(o,j)∈M):iE W M s s1 where
 vs:=fun t ht=>h.vs t fun q=>ht (hW t q)
 aQ:=h.aQ
 aE:=h.aE
 mem:=fun o w cs hm=>by
  obtain⟨ql,h1,h2,au⟩:=h.mem o w cs hm;exact⟨ql,h1,h2,fun j hj=>au j fun q=>hj (jf _ _ q (lt _ (jA hm)))⟩
 row:=fun o aY hc hm=>(h.row o aY hc hm).imp id fun q=>jf _ _ q (lt _ (jA hm))
theorem HQ{α:Type}{l:List (Nat × α)}{o:Nat}{c:α}(h:bt l o=some c):o∈l.map Prod.fst:=eA.2 ⟨_,jA h,rfl⟩
theorem Sq:∀{l:List Nat},Hw W l=true->∀t∈l,t∈W
 |[],_,_,h=>by cases h
 |a::l,h,t,ht=>by
  simp only[Hw]at h;split at h
  ·rename_i e
   rcases dG.1 ht with rfl|ht
   ·exact(mem_iff _ _).1 e
   ·exact Sq h t ht
  ·cases h
theorem BF{o j:Nat}:∀{l:List (Nat × Nat)},rU o j l=true↔(o,j)∈l
 |[]=>by simp[rU]
 |(a,c)::r=>by
  have ih:=BF (o:=o) (j:=j) (l:=r);have ne:∀{x y:Nat},Nat.beq x y=false->¬y=x:=fun h e=>by rw[e,Cl]at h;cases h
  unfold rU;rw[dG,bH];cases h1:Nat.beq a o<;>cases h2:Nat.beq c j
  ·simp[ne h1,ih]
  ·simp[ne h1,ih]
  ·simp[ne h2,ih]
  ·simp[eU h1,eU h2]
theorem Sr{n:Nat}:∀{l:List (Nat × Nat)},Hx n M l=true->∀o j,(o,j)∈l->o<n->(o,j)∈M
 |[],_,_,_,h,_=>by cases h
 |(a,c)::l,h,o,j,hm,hn=>by
  simp only[Hx]at h;split at h
  ·rename_i e
   rcases dG.1 hm with q|hm
   ·cases q
    have:=j1 e;omega
   ·exact Sr h o j hm hn
  ·split at h
   ·rename_i e
    rcases dG.1 hm with q|hm
    ·cases q;exact BF.1 e
    ·exact Sr h o j hm hn
   ·cases h
theorem _root_.Go.Abs.Own.pick{H:Heap}{ids l:List Nat}{G:Nat->List (Nat × cf)}{F:cG}(h:Own H (ids.map G++F))(hn:l.Nodup)(hs:∀o∈l,o∈ids):Own H (l.map G++F):=by
 have at_:∀{o:Nat},o∈ids->∃k:Nat,k<ids.length/\ids[k]? =some o/\(ids.map G++F)[k]? =some (G o):=fun {o} ho=>by
  obtain⟨k,hk⟩:=py.1 ho;have aG:=(eY.1 hk).1;exact⟨k,aG,hk,by rw[fY (by simpa using aG),iH,hk];rfl⟩
 refine⟨fun m hm p hp=> ?_,?_⟩
 ·rcases kq.1 hm with hm|hm
  ·obtain⟨o,ho,rfl⟩:=eA.1 hm
   exact h.1 _ (xM _ (sd (hs o ho))) p hp
  ·exact h.1 _ (qp _ hm) p hp
 ·rw[kS,Vn]
  refine⟨?_,?_,?_⟩
  ·rw[pC,List.pairwise_map]
   refine List.Pairwise.imp_of_mem ?_ hn;intro i j hi hj cY a al hf;obtain⟨asc,_,q1,q2⟩:=at_ (hs i hi);obtain⟨adQ,_,b3,cS⟩:=at_ (hs j hj);obtain⟨p,hp,rfl⟩:=eA.1 al;obtain⟨q,bu,e⟩:=eA.1 hf;exact h.KM q2 cS (fun e=>cY (by rw[e,b3]at q1;cases q1;rfl)) hp bu e.symm
  ·have:=h.2
   rw[kS,Vn]at this;exact this.2.1
  ·intro x hx y hy a al hf
   obtain⟨m,hm,rfl⟩:=eA.1 hx;obtain⟨o,ho,rfl⟩:=eA.1 hm;obtain⟨m',kz,rfl⟩:=eA.1 hy;obtain⟨asc,aG,_,q2⟩:=at_ (hs o ho);obtain⟨adQ,hj⟩:=py.1 kz;have cS:(ids.map G++F)[ids.length+adQ]? =some m':=by rw[vH (by simp)];simpa using hj
   obtain⟨p,hp,rfl⟩:=eA.1 al;obtain⟨q,bu,e⟩:=eA.1 hf;exact h.KM q2 cS (by omega) hp bu e.symm
theorem _root_.Go.Abs.Own.asd{H:Heap}{ids:List Nat}{l:List (Option Nat)}{G:Nat->List (Nat × cf)}{F:cG}(h:Own H (ids.map G++F))(hn:(l.filterMap id).Nodup)(hs:∀o∈l.filterMap id,o∈ids):Own H ((l.map fun x=>x.elim [] G)++F):=by
 have nl:∀{pre X:cG},Own H (pre++X)->Own H (pre++[]::X):=fun {pre X} h=>by
  refine⟨fun m hm p hp=> ?_,?_⟩
  ·rcases kq.1 hm with q|q
   ·exact h.1 m (xM _ q) p hp
   ·rcases dG.1 q with rfl|q
    ·cases hp
    ·exact h.1 m (qp _ q) p hp
  ·have:=h.2
   rw[kS,Vn]at this;rw[kS,Vn,dX,Ja];refine⟨this.1,⟨fun _ _ a al=>by simp at al,this.2.1⟩,fun x hx y hy a al=> ?_⟩;rcases dG.1 hy with rfl|hy
   ·simp
   ·exact this.2.2 x hx y hy a al
 have key:∀(l:List (Option Nat)) (pre:cG),Own H (pre++((l.filterMap id).map G++F))->Own H (pre++((l.map fun x=>x.elim [] G)++F)):=by
  intro l
  induction l with
  |nil=>exact fun _ h=>h
  |cons x l ih=>
   intro pre h;cases x with
   |none=>exact nl (ih pre h)
   |some o=>
    have:=ih (pre++[G o]) (by simpa using h);simpa using this
 exact key l [] (h.pick hn hs)
theorem BG:∀l:List (Nat × cp J),((rW M l).map Prod.fst).Sublist (l.map Prod.fst)
 |[]=>Jb _
 |(o,c)::r=>by
  simp only[rW];split
  ·exact(BG r).cons_cons _
  ·split
   ·exact(BG r).cons _
   ·exact(BG r).cons_cons _
theorem Mn{o:Nat}{w:Bool}{cs:List (aR J.az)}:∀{l:List (Nat × cp J)},bt l o=some (.cells w cs)->bt (rW M l) o=some (.cells w (s4 o M 0 cs))
 |(a,c)::r,h=>by
  rw[gk]at h;simp only[rW];split at h
  ·rename_i e
   cases h;subst e;simp only[gk,if_pos]
  ·rename_i e
   split
   ·rw[gk,if_neg e];exact Mn h
   ·split
    ·exact Mn h
    ·rw[gk,if_neg e];exact Mn h
theorem Mo{o:Nat}{aY:cp J}(hc:uu aY=false)(jf:(o,0)∉M):∀{l:List (Nat × cp J)},bt l o=some aY->bt (rW M l) o=some aY
 |(a,c)::r,h=>by
  rw[gk]at h;simp only[rW];split at h
  ·rename_i e
   cases h;subst e
   have:rU a 0 M=false:=by
    cases e:rU a 0 M with
    |false=>rfl
    |true=>exact absurd (BF.1 e) jf
   cases aY with
   |cells=>cases hc
   | _=>simp only[this,gk,if_pos]
  ·rename_i e
   split
   ·rw[gk,if_neg e];exact Mo hc jf h
   ·split
    ·exact Mo hc jf h
    ·rw[gk,if_neg e];exact Mo hc jf h
theorem BH{o:Nat}{c':cp J}:∀{l:List (Nat × cp J)},(o,c')∈rW M l->(∃w cs,(o,.cells w cs)∈l/\c'=.cells w (s4 o M 0 cs))\/((o,c')∈l/\uu c'=false/\(o,0)∉M)
 |(a,c)::r,h=>by
  have up:((∃w cs,(o,.cells w cs)∈r/\c'=.cells w (s4 o M 0 cs))\/((o,c')∈r/\uu c'=false/\(o,0)∉M))->(∃w cs,(o,.cells w cs)∈(a,c)::r/\c'=.cells w (s4 o M 0 cs))\/((o,c')∈(a,c)::r/\uu c'=false/\(o,0)∉M):=
   Or.imp (fun⟨w,cs,h1,h2⟩=>⟨w,cs,lf _ h1,h2⟩) fun⟨h1,h2⟩=>⟨lf _ h1,h2⟩
  simp only[rW]at h;split at h
  ·rcases dG.1 h with e|h
   ·cases e;exact .inl ⟨_,_,qq ..,rfl⟩
   ·exact up (BH h)
  ·rename_i hc
   split at h
   ·exact up (BH h)
   ·rename_i e2
    rcases dG.1 h with e|h
    ·cases e
     refine .inr ⟨qq ..,?_,fun q=>by rw[BF.2 q]at e2;cases e2⟩;cases c' with
     |cells w cs=>exact absurd rfl (hc w cs)
     | _=>rfl
    ·exact up (BH h)
theorem adR{o:Nat}:∀(cs:List (aR J.az)) (i:Nat),(s4 o M i cs).length=cs.length
 |[],_=>rfl
 |c::r,i=>by simp[s4,adR r]
theorem adS{o:Nat}:∀(cs:List (aR J.az)) (i j:Nat),(o,i+j)∉M->(s4 o M i cs)[j]? =cs[j]?
 |[],_,_,_=>rfl
 |c::r,i,0,h=>by
  have:rU o i M=false:=by
   cases e:rU o i M with
   |false=>rfl
   |true=>exact absurd (BF.1 e) h
  simp[s4,this]
 |c::r,i,j+1,h=>by
  simp only[s4,Ev];exact adS r (i+1) j (by rwa [I9,rb])
theorem Ss{t:Nat}:∀(l:List Nat) (r:List (Nat × aR J.az)),bt ((l.map fun t=>(t,aR.lD))++r) t=if t∈l then some .lD else bt r t
 |[],r=>by simp
 |a::l,r=>by
  rw[dX,l4,gk,Ss l r];by_cases e:a=t
  ·subst e;simp
  ·simp[e,lI e]
theorem adT:iE W M s (blank W M s) where
 vs:=fun t ht=>by unfold blank;simp only;rw[Ss,if_neg ht]
 aQ:=ei
 aE:=aN _
 mem:=fun o w cs hm=>⟨_,Mn hm,adR _ _,fun j hj=>adS _ _ _ (by rwa [eo])⟩
 row:=fun o aY hc hm=>(Decidable.em ((o,0)∈M)).elim .inr fun q=>.inl (Mo hc q hm)
theorem adU{o:Nat}{B yU:List Bool}(dM:B <+: yU)(aU:ρ <+: gw):∀{cs ql:List (aR J.az)} {adV ws:List V} (i:Nat),bG J B ρ fs cs adV->bG J yU gw fs ql ws->ql.length=cs.length->(∀j:Nat,(o,i+j)∉M->ql[j]? =cs[j]?)->bG J B ρ fs (s4 o M i cs) ws
 | _,_,_,_,i,.nil,.nil,_,_=>.nil
 | _,_,_,_,i,.nil,.cons _ _,hl,_=>by cases hl
 | _,_,_,_,i,.cons _ _,.nil,hl,_=>by cases hl
 |c::cs,cT::ql,_,_,i,.cons h r,.cons h1 bI,hl,hj=>by
  refine .cons ?_ (adU dM aU (i+1) r bI (by simpa using hl) fun j q=>by
   have:=hj (j+1) (by rwa [I9,rb]at q);simpa using this)
  split
  ·exact .lD
  ·rename_i e
   have:(o,i)∉M:=fun q=>by rw[BF.2 q]at e;cases e
   have:=hj 0 (by rwa [zw]);simp only[nO,aD]at this;subst this;exact h.back dM aU h1
theorem adW (R:cd J b F fs s σ H G ρ)(bT:cd J b F fs s1 cM H1 aB gw)(aU:ρ <+: gw)(hg:iE W M s s1):cd J b F fs (blank W M s) cM H1 aB ρ where
 aE:=R.aE
 vs:=fun t v h=>by
  have h:bt ((W.map fun t=>(t,aR.lD))++s.vs) t=some v:=h;rw[Ss]at h;split at h
  ·cases h;exact .lD
  ·rename_i e
   have h1:=h;rw[<-hg.vs t e]at h1;exact(R.vs t v h).back hg.aQ aU (bT.vs t v h1)
 own:=by
  have ad:∀l:List (Nat × cp J),l.map (fun e=>aB e.1)=(l.map Prod.fst).map aB:=fun l=>by rw[pC];rfl
  have:=bT.own;unfold dB at this⊢;rw[ad]at this⊢;refine this.pick (R.dt.sublist (BG _)) fun o ho=> ?_;obtain⟨⟨o',c⟩,he,rfl⟩:=eA.1 ho;rcases BH he with⟨w,cs,h1,-⟩|⟨h1,hc,h2⟩
  ·obtain⟨cs',au,-⟩:=hg.mem _ _ _ (xn R.dt h1)
   exact HQ au
  ·exact HQ ((hg.row _ _ hc (xn R.dt h1)).resolve_right h2)
 dt:=R.dt.sublist (BG _)
 lt:=fun e he=>by
  have:=(BG (M:=M) s.mem).subset (sd (f:=Prod.fst) he);obtain⟨e',h1,h2⟩:=eA.1 this;rw[<-h2];exact R.lt e' h1
 mem:=fun o aY h=>by
  have h:bt (rW M s.mem) o=some aY:=h;rcases BH (jA h)with⟨w,cs,hm,rfl⟩|⟨hm,hc,jf⟩
  ·have hm:=xn R.dt hm
   obtain⟨ql,h1,h2,au⟩:=hg.mem o w cs hm;obtain⟨a0,adV,p1,p2,p3,mR⟩:=R.mem o _ hm;obtain⟨a,ws,q1,q2,b3,cS⟩:=bT.mem o _ h1;have:=lZ aU p1;rw[q1]at this;cases this;exact⟨_,ws,p1,q2,adU hg.aQ aU 0 p3 b3 h2 (fun j hj=>au j (by rwa [eo]at hj)),cS⟩
  ·have hm:=xn R.dt hm
   have h0:=R.mem o _ hm;have h1:=bT.mem o _ ((hg.row o aY hc hm).resolve_right jf);cases aY with
   |cells=>cases hc
   |row t x=>
    obtain⟨v0,p1,p2⟩:=h0;obtain⟨v,q1,q2⟩:=h1;have:=lZ aU p1;rw[q1]at this;cases this;exact⟨_,p1,q2⟩
   |fz t x=>
    obtain⟨v0,m0,p1,p2⟩:=h0;obtain⟨v,m1,q1,q2⟩:=h1;have:=lZ aU p1;rw[q1]at this;cases this;exact⟨_,_,p1,q2⟩
   |mp k w x=>
    obtain⟨v0,p1,p2⟩:=h0;obtain⟨v,q1,q2⟩:=h1;have:=lZ aU p1;rw[q1]at this;cases this;exact⟨_,p1,q2⟩
 du:=R.du
def St (σ:bY)(G:Nat->List (Nat × cf)):Loc->V->Prop
 | .s t,w=>w=σ t
 | .m o j,w=>∃a ws,G o=[(a,.cells ws)]/\ws[j]? =some w
theorem BI (R:cd J b F fs s σ H G ρ){l:Loc}{v:aR J.az}(h:at_ s l=some v):∃w,St σ G l w/\b8 J s.aQ ρ fs v w:=by
 cases l with
 |s t=>exact⟨_,rfl,R.vs t v h⟩
 |m o j=>
  simp only[at_]at h;split at h
  ·rename_i wr cs hm
   obtain⟨a,ws,q1,q2,b3,cS⟩:=R.mem o _ hm;rw[xb]at h;obtain⟨w,ad,e2⟩:=b3.get h;exact⟨w,⟨a,ws,q2,ad⟩,e2⟩
  ·cases h
theorem Kg{α:Type}{l:List α}{j:Nat}{a:α}(h:l[j]? =some a):l.set j a=l:=by
 apply q7;intro i;by_cases e:j=i
 ·subst e;rw[oA (eY.1 h).1,h]
 ·rw[jE e]
def adX (s:bE J)(σ:bY)(G:Nat->List (Nat × cf)):Loc->V->Prop
 | .s t,w=>w=σ t
 | .m o j,w=>∀wr cs,bt s.mem o=some (.cells wr cs)->∃a ws,G o=[(a,.cells ws)]/\ws[j]? =some w
theorem D5 (R:cd J b F fs s σ H G ρ){l:Loc}{v:aR J.az}{w:V}(hw:adX s σ G l w)(af:b8 J s.aQ ρ fs v w):cd J b F fs (k9 s l v) σ H G ρ:=by
 cases l with
 |s t=>
  cases hw;refine⟨R.aE,fun k u h=> ?_,R.own,R.dt,R.lt,R.mem,R.du⟩;have h:bt ((t,v)::s.vs) k=some u:=h;rw[gk]at h;split at h
  ·rename_i e;cases h;subst e;exact af
  ·exact R.vs k u h
 |m o j=>
  simp only[k9];split
  ·rename_i wr cs hm
   obtain⟨a,ws,ad,e2⟩:=hw wr cs hm;refine⟨R.aE,R.vs,?_,?_,fun e he=> ?_,fun q aY h=> ?_,R.du⟩
   ·have:=R.own
    unfold dB at this⊢;have ad:∀l:List (Nat × cp J),l.map (fun e=>G e.1)=(l.map Prod.fst).map G:=fun l=>by rw[pC];rfl
    simp only;rw[ad,vo,<-ad];exact this
   ·simp only[vo];exact R.dt
   ·have:e.1∈(jc o (.cells wr (cs.set j v)) s.mem).map Prod.fst:=sd he
    rw[vo]at this;obtain⟨e',h1,h2⟩:=eA.1 this;rw[<-h2];exact R.lt e' h1
   ·simp only[uq]at h
    split at h
    ·rename_i e;subst e
     rw[hm]at h;cases h;obtain⟨bn,eX,q1,q2,b3,cS⟩:=R.mem q _ hm;rw[q2]at ad;cases ad;refine⟨_,_,q1,q2,?_,cS⟩;have:=b3.set j af;rwa [Kg e2]at this
    ·exact R.mem q aY h
  ·exact R
theorem Mp{l:Loc}{v:aR J.az}:(k9 s l v).aQ=s.aQ:=by
 cases l with
 |s t=>rfl
 |m o j=>simp only[k9];split<;>rfl
theorem adY{l:Loc}{v:aR J.az}:(k9 s l v).mem.map Prod.fst=s.mem.map Prod.fst/\(k9 s l v).aE=s.aE:=by
 cases l with
 |s t=>exact⟨rfl,rfl⟩
 |m o j=>simp only[k9];split<;>simp[vo]
theorem ase{l:Loc}{v:aR J.az}{q:Nat}{w:Bool}{cs:List (aR J.az)}(h:bt (k9 s l v).mem q=some (.cells w cs)):∃cs,bt s.mem q=some (.cells w cs):=by
 cases l with
 |s t=>exact⟨_,h⟩
 |m o j=>
  simp only[k9]at h;split at h
  ·rename_i wr cs' hm
   simp only[uq]at h;split at h
   ·rename_i e;subst e;rw[hm]at h⊢; cases h;exact⟨_,rfl⟩
   ·exact⟨_,h⟩
  ·exact⟨_,h⟩
theorem adZ (a6:gv J){c:Nat}{y:J.az c}{aY:cp J}{v:aR J.az}{w:V}(h:L4 c v=some y)(af:b8 J [] [] [] v w)(h':rowAt c y=some aY):∃ed oL,aY=.row ed oL/\w=aV (J.es ed) (J.enc ed) oL:=by
 unfold L4 at h;split at h
 ·cases h
 ·rename_i hn
  unfold rowAt at h';split at h'
  ·rename_i p hp;rw[hn]at hp;cases hp
  ·split at h'
   ·rename_i ed oL hs
    cases h';refine⟨ed,oL,rfl,?_⟩;have ad:=a6.iC c _ _ _ _ _ y af h;have e2:=a6.h4 c y [] [] [];rw[oD,hs]at e2;rw[ad];generalize J.enc c y=u at e2;cases e2;rfl
   ·cases h'
theorem asf{A B:Type}(h:A=B)(x:B):(h ▸ (h.symm ▸ x:A):B)=x:=by subst h;rfl
theorem asg{c eO kk:Nat}{x:List (J.az eO × J.az kk)}{y:J.az c}(h:RV c eO kk x=some y):rowAt c y=some (.mp eO kk x):=by
 unfold RV at h;split at h
 ·cases h
 ·rename_i p hp
  split at h
  ·rename_i e
   subst e;cases h;unfold rowAt;split
   ·rename_i Fb qF
    rw[hp]at qF;cases qF;congr 2;exact asf _ _
   ·rename_i hn;rw[hp]at hn;cases hn
  ·cases h
theorem ash{α β:Type}{es bV:Nat}{f:α->V}{mB:β->V}{x:ae α}{e1:ae β}{v:V}{m:List (Nat × cf)}(h:aV es f x=aV bV mB e1)(hr:e3 b es f v x m):e3 b bV mB v e1 m:=by
 unfold e3 at hr⊢;cases x with
 |nil=>cases e1<;>cases h;cases hr;exact .nil
 |emp=>cases e1<;>cases h;cases hr;exact .emp
 |mk l=>cases e1 with
  |mk fB=>
   simp only[aV,V.list.injEq]at h;obtain⟨rfl,h⟩:=h;simp only[ae.map,h]at hr;exact hr
  |nil=>cases h
  |emp=>cases h
theorem asi{α:Type}{es:Nat}{f:α->V}{x:ae α}{v:aR J.az}{w:V}{c:aR J.az}(hn:s0 v=some c)(af:b8 J [] [] [] c w)(h:w=aV es f x):e3 b es f w x []:=by
 unfold s0 at hn;split at hn<;>cases hn<;>cases af<;>cases x<;>cases h<;>first|exact .nil|exact .emp
theorem asj{B:List Bool}{v c:aR J.az}{w:V}(hn:s0 v=some c)(af:b8 J B ρ fs v w):b8 J [] [] [] c w:=by
 unfold s0 at hn;split at hn<;>cases hn<;>cases af<;>exact .k
structure Fit (aB:Nat->List (Nat × cf)) (s1 cV:bE J) (m:Nat) (M:List (Nat × Nat)) (u:List Nat) (f:Nat->Option Nat):Prop where
 ids:∀o∈(cV.mem.map Prod.fst).filterMap f,o∈s1.mem.map Prod.fst
 dt:((cV.mem.map Prod.fst).filterMap f).Nodup
 cells:∀q w cs,bt cV.mem q=some (.cells w cs)->f q=some q
 row:∀o aY,uu aY=false->bt s1.mem o=some aY->mem o u=false->(m<=o\/(o,0)∈M)->o∉(cV.mem.map Prod.fst).filterMap f
theorem Fit.k9{m:Nat}{u:List Nat}{f:Nat->Option Nat}(h:Fit aB s1 cV m M u f){B:List Bool}{l:Loc}{v:aR J.az}:Fit aB s1 (k9 {cV with aQ:=B} l v) m M u f:=by
 have e:=(adY (s:={cV with aQ:=B}) (l:=l) (v:=v)).1;refine⟨by rw[e];exact h.ids,by rw[e];exact h.dt,fun q w cs bu=> ?_,by rw[e];exact h.row⟩;obtain⟨cs',h1⟩:=ase bu;exact h.cells q w cs' h1
theorem Su{m:Nat}{u:List Nat}{f:Nat->Option Nat}(h:Fit aB s1 cV m M u f){l:Loc}{w:V}(hw:St cM aB l w):adX cV cM (fun q=>(f q).elim [] aB) l w:=by
 cases l with
 |s t=>exact hw
 |m o j=>
  intro wr cs hm;show ∃a ws,(f o).elim [] aB=[(a,cf.cells ws)]/\ws[j]? =some w;rw[h.cells o wr cs hm];exact hw
theorem ad0{α β:Type}{f g:α->Option β}:∀{l:List α},(∀a∈l,f a=g a)->l.filterMap f=l.filterMap g
 |[],_=>rfl
 |a::l,h=>by rw[NF,NF,h a (qq ..),ad0 fun b hb=>h b (lf _ hb)]
theorem Fit.add{m:Nat}{u u':List Nat}{f:Nat->Option Nat}(h:Fit aB s1 cV m M u f)(bT:cd J b F fs s1 cM H1 aB gw){uv:List V}(R:cd J b F fs cV cM H1 (fun q=>(f q).elim [] aB) uv){aY:cp J}{v:V}{l:Loc}(x:Option Nat)
  (hx:∀o,x=some o->o∈s1.mem.map Prod.fst/\o∉(cV.mem.map Prod.fst).filterMap f/\mem o u'=true) (hu:∀o,mem o u'=false->mem o u=false) (hc:uu aY=false) (hr:∀B cR,cR[cV.aE]? =some v->qk J b B cR fs cV.aE (x.elim [] aB) aY) (hw:St cM aB l v):
  ∃mB:Nat->Option Nat,Fit aB s1 (hv.k9 (k8 cV aY) l (.row cV.aE)) m M u' mB/\cd J b F fs (hv.k9 (k8 cV aY) l (.row cV.aE)) cM H1 (fun q=>(mB q).elim [] aB) (uv++[v]):=by
 refine⟨fun q=>if q=cV.aE then x else f q,?_⟩
 have bq:∀q∈cV.mem.map Prod.fst,¬q=cV.aE:=fun q bu e=>by
  obtain⟨p,hp,e'⟩:=eA.1 bu;exact absurd (R.lt p hp) (by rw[e',e];exact Nat.lt_irrefl _)
 have D0:(k8 cV aY).mem.map Prod.fst=cV.aE::cV.mem.map Prod.fst:=rfl
 have em:(cV.aE::cV.mem.map Prod.fst).filterMap (fun q=>if q=cV.aE then x else f q)=x.toList++(cV.mem.map Prod.fst).filterMap f:=by
  have:(cV.mem.map Prod.fst).filterMap (fun q=>if q=cV.aE then x else f q)=(cV.mem.map Prod.fst).filterMap f:=ad0 fun q bu=>if_neg (bq q bu);rw[NF,if_pos rfl,this];cases x<;>rfl
 have Mq:Fit aB s1 (k8 cV aY) m M u' (fun q=>if q=cV.aE then x else f q):=by
  refine⟨?_,?_,fun q w cs bu=> ?_,?_⟩
  ·rw[D0,em]
   intro o ho;rcases kq.1 ho with q|q
   ·exact(hx o (by simpa using q)).1
   ·exact h.ids o q
  ·rw[D0,em,zs]
   exact⟨by cases x<;>simp,h.dt,fun a al c hc e=>by subst e;exact(hx a (by simpa using al)).2.1 hc⟩
  ·have bu:bt ((cV.aE,aY)::cV.mem) q=some (.cells w cs):=bu
   rw[gk]at bu;split at bu
   ·cases bu;cases hc
   ·rename_i e;rw[if_neg (lI e)];exact h.cells q w cs bu
  ·rw[D0,em]
   intro o asl h0 h1 h2 au a7;rcases kq.1 a7 with q|q
   ·rw[(hx o (by simpa using q)).2.2]at h2;cases h2
   ·exact h.row o asl h0 h1 (hu o h2) au q
 have C5:(fun q=>if q=cV.aE then x.elim [] aB else(f q).elim [] aB)=fun q=>(if q=cV.aE then x else f q).elim [] aB:=by
  funext q;split<;>rfl
 have av:Own H1 (x.elim [] aB::dB cV (fun q=>(f q).elim [] aB) F):=by
  have ad:∀l:List (Nat × cp J),l.map (fun e=>aB e.1)=(l.map Prod.fst).map aB:=fun l=>by rw[pC];rfl
  have h1:=bT.own;unfold dB at h1⊢;rw[ad]at h1
  have h2:=h1.asd (l:=x::(cV.mem.map Prod.fst).map f) (by
   rw[NF,List.filterMap_map];have:=Mq.dt;rw[D0,em]at this;cases x<;>exact this) (by
   have:=Mq.ids;rw[D0,em]at this;rw[NF,List.filterMap_map];cases x<;>exact this)
  simpa[Function.comp_def]using h2
 have eJ:=R.add av (aY:=aY) (v:=v) (hr _ _ (R.new v));rw[C5]at eJ;have gO:=Mq.k9 (B:=(k8 cV aY).aQ) (l:=l) (v:=.row cV.aE);exact⟨gO,D5 eJ (Su Mq hw) (.row (R.new v))⟩
theorem yV (a6:gv J)(bT:cd J b F fs s1 cM H1 aB gw)(aU:ρ <+: gw){B:List Bool}(pk:B <+: s1.aQ):∀{sh:nI J} {u:List Nat} {x:dF J (jd sh)} {cV:bE J} {f:Nat->Option Nat} {uv:List V},cd J b F fs cV cM H1 (fun q=>(f q).elim [] aB) uv->B <+: cV.aQ->ρ <+: uv->Fit aB s1 cV ρ.length M u f->
   pg B.length ρ.length M s1 u sh=some x->∃G' cR,cd J b F fs (rV sh x cV) cM H1 G' cR/\ρ <+: cR
 |[],u,_,cV,f,uv,R,_,r0,_,_=>⟨_,_,R,r0⟩
 |(l,.p t)::r,u,x,cV,f,uv,R,dM,r0,c1,h=>by
  simp only[pg]at h;split at h
  ·cases h
  ·rename_i v af
   split at h
   ·cases h
   ·rename_i y hy
    split at h
    ·cases h
    ·rename_i z aJ
     cases h;obtain⟨w,aH,bQ⟩:=BI bT af;have:=a6.iC _ _ _ _ _ _ _ bQ hy;subst this;simp only[rV,HH,HI];refine yV a6 bT aU pk (D5 (R.eH (Mf _)) (Su (cV:={cV with aQ:=cV.aQ++J.yM t y}) ⟨c1.ids,c1.dt,c1.cells,c1.row⟩ aH) (a6.h4 t y cV.aQ uv fs)) ?_ r0 c1.k9 aJ;rw[Mp];exact dM.trans (hP _ _)
 |(l,.c v)::r,u,x,cV,f,uv,R,dM,r0,c1,h=>by
  simp only[pg]at h;cases hu:at_ s1 l with
  |none=>rw[hu]at h;cases h
  |some u=>
   rw[hu]at h;cases ad:same u v<;>cases e2:wf B.length ρ.length v<;>simp only[ad,e2]at h
   ·cases h
   ·cases h
   ·cases h
   ·obtain⟨w,aH,bQ⟩:=BI bT hu
    have:=Mm pk aU e2 (Sn ad bQ);simp only[rV];exact yV a6 bT aU pk (D5 R (Su c1 aH) (this.mono dM r0)) (by rw[Mp];exact dM) r0 (c1.k9 (B:=cV.aQ)) h
 |(_,.d)::r,u,x,cV,f,uv,R,dM,r0,c1,h=>by
  exact yV (sh:=r) (x:=x) a6 bT aU pk R dM r0 c1 (by simp only[pg]at h;exact h)
 |(l,.r c)::r,u,x,cV,f,uv,R,dM,r0,c1,h=>by
  simp only[pg]at h;split at h
  ·cases h
  ·rename_i v af
   obtain⟨w,aH,bQ⟩:=BI bT af;split at h
   ·rename_i o
    have key:∀{fi:cp J} {y:J.az c} {z:dF J (jd r)},bt s1.mem o=some fi->uu fi=false->hv.mem o u=false->(match Nat.ble ρ.length o with|true=>true|false=>rU o 0 M)=true->pg B.length ρ.length M s1 (o::u) r=some z->
      (∀aY,rowAt c y=some aY->uu aY=false/\∀B cR,cR[cV.aE]? =some w->qk J b B cR fs cV.aE (aB o) aY)->∃G' cR,cd J b F fs (rV ((l,.r c)::r) (yO (jd r) y z) cV) cM H1 G' cR/\ρ <+: cR:=by
     intro fi y z hm h0 hu hc aJ eI
     have hc:ρ.length<=o\/(o,0)∈M:=by
      split at hc
      ·rename_i e;exact .inl (j1 e)
      ·exact .inr (BF.1 hc)
     have mF:∀o',hv.mem o' (o::u)=false->hv.mem o' u=false:=fun o' q=>by
      simp only[hv.mem]at q;split at q
      ·cases q
      ·exact q
     simp only[rV,HH,HI];split
     ·rename_i aY E4
      obtain⟨b4,dq⟩:=eI aY E4
      obtain⟨mB,f1,f2⟩:=c1.add bT R (u':=o::u) (some o) (fun o' e=>by
       cases e;exact⟨HQ hm,c1.row o fi h0 hm hu hc,by simp[hv.mem]⟩) mF b4 dq aH
      exact yV a6 bT aU pk f2 (by rw[Mp];exact dM) (r0.trans (hP _ _)) f1 aJ
     ·exact yV a6 bT aU pk R dM r0 ⟨c1.ids,c1.dt,c1.cells,fun o' aY a0 ak a2 a3=>c1.row o' aY a0 ak (mF o' a2) a3⟩ aJ
    split at h
    ·rename_i t lD hm hu hc
     split at h
     ·cases h
     ·rename_i y hy
      split at h
      ·cases h
      ·rename_i z aJ
       cases h;refine key hm rfl hu hc aJ fun aY eI=> ?_;obtain⟨ed,oL,rfl,e⟩:=adZ a6 hy .sl eI;obtain⟨v0,q1,q2⟩:=bT.mem o _ hm;cases bQ with
       |row ho=>
        rw[q1]at ho;cases ho;exact⟨rfl,fun B cR q=>⟨_,q,ash e q2⟩⟩
    ·rename_i eO kk lD hm hu hc
     split at h
     ·cases h
     ·rename_i y hy
      split at h
      ·cases h
      ·rename_i z aJ
       cases h;refine key hm rfl hu hc aJ fun aY eI=> ?_;rw[asg hy]at eI;cases eI;obtain⟨a,q1,q2⟩:=bT.mem o _ hm;cases bQ with
       |row ho=>
        rw[q1]at ho;cases ho;exact⟨rfl,fun B cR q=>⟨_,q,q2⟩⟩
    ·cases h
   ·split at h
    ·cases h
    ·rename_i aBh hn
     split at h
     ·cases h
     ·rename_i y hy
      split at h
      ·cases h
      ·rename_i z aJ
       cases h;simp only[rV,HH,HI];have ad1:=asj hn bQ;split
       ·rename_i aY E4
        obtain⟨ed,oL,rfl,e⟩:=adZ a6 hy ad1 E4;obtain⟨mB,f1,f2⟩:=c1.add (aY:=.row ed oL) bT R (u':=u) none (fun _ e=>by cases e) (fun _ q=>q) rfl (fun B cR q=>⟨_,q,asi hn ad1 e⟩) aH;exact yV a6 bT aU pk f2 (by rw[Mp];exact dM) (r0.trans (hP _ _)) f1 aJ
       ·exact yV a6 bT aU pk R dM r0 c1 aJ
theorem cd.Mr (R:cd J b F fs s σ H G ρ){dR:List Nat}{cL:List (Nat × Nat)}:cd J b F fs {s with du:=[],dR:=dR,cL:=cL} σ H G ρ:=
 ⟨R.aE,R.vs,R.own,R.dt,R.lt,R.mem,fun _ _ h=>by cases h⟩
theorem Ms (a6:gv J)(R:cd J b F fs s σ H G ρ)(bT:cd J b F fs s1 cM H1 aB gw)(aU:ρ <+: gw){sh:nI J}{x:dF J (jd sh)}(hg:iE (gd sh++W) (M++iD sh) s s1)(h:pg s.aQ.length s.aE (M++iD sh) s1 [] sh=some x):
  ∃G' cR,cd J b F fs (enter W M sh x s) cM H1 G' cR/\ρ <+: cR:=by
 have sS:=adW R bT aU hg;have e:∀l:List Nat,l.filterMap some=l:=fun l=>List.filterMap_some
 obtain⟨G',cR,bI,cq⟩:=yV a6 bT aU hg.aQ (f:=some) (M:=M++iD sh) sS ei ei ⟨by
  rw[e];intro o ho;obtain⟨⟨o',c⟩,he,rfl⟩:=eA.1 ho;rcases BH he with⟨w,cs,h1,-⟩|⟨h1,hc,h2⟩
  ·obtain⟨cs',au,-⟩:=hg.mem _ _ _ (xn R.dt h1)
   exact HQ au
  ·exact HQ ((hg.row _ _ hc (xn R.dt h1)).resolve_right h2),by rw[e];exact sS.dt,fun _ _ _ _=>rfl,by
  rw[e];intro o aY h0 hm _ hc ho;obtain⟨⟨o',c⟩,he,rfl⟩:=eA.1 ho;rcases BH he with⟨w,cs,h1,-⟩|⟨h1,-,h2⟩
  ·obtain⟨cs',au,-⟩:=hg.mem _ _ _ (xn R.dt h1)
   rw[hm]at au;cases au;cases h0
  ·rcases hc with hc|hc
   ·have:=R.lt _ h1
    rw[R.aE]at hc;exact absurd this (Nat.not_lt.2 hc)
   ·exact h2 hc⟩ (by rw[R.aE];exact h)
 exact⟨G',cR,bI.Mr,cq⟩
theorem Mt{l:Loc}{v:aR J.az}{B:List Bool}(dM:s.aQ <+: B)(hW:∀t,l=.s t->t∈W)(jf:∀o j,l=.m o j->(o,j)∈M):iE W M s (k9 {s with aQ:=B} l v):=by
 cases l with
 |s t=>
  refine⟨fun k hk=> ?_,dM,aN _,fun o w cs h=>⟨cs,h,rfl,fun _ _=>rfl⟩,fun _ _ _ h=>.inl h⟩;show bt ((t,v)::s.vs) k=_;rw[gk,if_neg];intro e;subst e;exact hk (hW _ rfl)
 |m o j=>
  simp only[k9];split
  ·rename_i wr cs hm
   have hm:bt s.mem o=some (.cells wr cs):=hm;refine⟨fun _ _=>rfl,dM,aN _,fun q w cs' h=> ?_,fun q aY hc h=> ?_⟩
   ·simp only[uq]
    by_cases e:q=o
    ·subst e
     rw[h]at hm;cases hm;refine⟨_,by rw[if_pos rfl,h];rfl,by simp,fun i hi=> ?_⟩;rw[jE];intro e;subst e;exact hi (jf _ _ rfl)
    ·exact⟨cs',by rw[if_neg e];exact h,rfl,fun _ _=>rfl⟩
   ·simp only[uq]
    by_cases e:q=o
    ·subst e;rw[h]at hm;cases hm;cases hc
    ·rw[if_neg e];exact .inl h
  ·exact⟨fun _ _=>rfl,dM,aN _,fun o w cs h=>⟨cs,h,rfl,fun _ _=>rfl⟩,fun _ _ _ h=>.inl h⟩
theorem asm{aY:cp J}(lt:∀e∈s.mem,e.1<s.aE):iE W M s (k8 s aY):=by
 have key:∀{o:Nat} {c:cp J},bt s.mem o=some c->bt (k8 s aY).mem o=some c:=fun {o c} h=>by
  show bt ((s.aE,aY)::s.mem) o=_;rw[gk,if_neg (Nat.ne_of_gt (lt _ (jA h)))];exact h
 exact⟨fun _ _=>rfl,ei,ED _,fun o w cs h=>⟨cs,key h,rfl,fun _ _=>rfl⟩,fun _ _ _ h=>.inl (key h)⟩
theorem Sv{l:Loc}{v:aR J.az}{B:List Bool}(lt:∀e∈s.mem,e.1<s.aE):∀e∈(k9 {s with aQ:=B} l v).mem,e.1<(k9 {s with aQ:=B} l v).aE:=fun e he=>by
 have h:=sd (f:=Prod.fst) he;obtain⟨h1,h2⟩:=adY (s:={s with aQ:=B}) (l:=l) (v:=v);rw[h1]at h;rw[h2];obtain⟨e',q1,q2⟩:=eA.1 h;rw[<-q2];exact lt e' q1
theorem D6:∀(sh:nI J) (x:dF J (jd sh)) (s:bE J),(∀e∈s.mem,e.1<s.aE)->(∀t∈gd sh,t∈W)->(∀p∈iD sh,p∈M)->iE W M s (rV sh x s)
 |[],_,_,_,_,_=>.rfl
 |(l,p)::r,x,s,lt,hW,jf=>by
  have Sw:∀t,l=.s t->t∈W:=fun t e=>hW t (by subst e;exact qq ..);have HR:∀t∈gd r,t∈W:=fun t h=>hW t (by cases l<;>first|exact lf _ h|exact h);have Sx:∀o j,l=.m o j->(o,j)∈M:=fun o j e=>jf _ (by subst e;exact qq ..);have HS:∀q∈iD r,q∈M:=fun q h=>jf q (by cases l<;>first|exact lf _ h|exact h);cases p with
  |p c=>exact(Mt (hP _ _) Sw Sx).trans (D6 r _ _ (Sv lt) HR HS)
  |c v=>exact(Mt (B:=s.aQ) ei Sw Sx).trans (D6 r _ _ (Sv (B:=s.aQ) lt) HR HS)
  |d=>exact D6 r _ _ lt HR HS
  |r c=>
   simp only[rV];split
   ·rename_i aY _
    have asn:∀e∈(k8 s aY).mem,e.1<(k8 s aY).aE:=fun e he=>by
     rcases dG.1 he with rfl|he
     ·exact zt _
     ·exact NI (lt e he)
    exact(asm lt).trans ((Mt (s:=k8 s aY) (B:=s.aQ) ei Sw Sx).trans (D6 r _ _ (Sv (s:=k8 s aY) (B:=s.aQ) asn) HR HS))
   ·exact D6 r _ _ lt HR HS
theorem ad2 (lt:∀e∈s.mem,e.1<s.aE){sh:nI J}{x:dF J (jd sh)}:iE (gd sh++W) (M++iD sh) s (enter W M sh x s):=by
 have h:=(adT (s:=s) (W:=gd sh++W) (M:=M++iD sh)).trans (D6 sh x _ (fun e he=>by
  obtain⟨e',h1,h2⟩:=eA.1 ((BG (M:=M++iD sh) s.mem).subset (sd (f:=Prod.fst) he));rw[<-h2];exact lt e' h1) (fun t ht=>xM _ ht) (fun p hp=>qp _ hp))
 exact⟨h.vs,h.aQ,h.aE,h.mem,h.row⟩
theorem ad3 (lt:∀e∈s.mem,e.1<s.aE){sh:nI J}{x:dF J (jd sh)}:Fr s (enter W M sh x s):=by
 have cL:∀{p},p∈M++iD sh->p∈M++(iD sh++s.cL):=fun q=>by rw[<-kR];exact xM _ q
 have hg:=ad2 (W:=W) (M:=M) lt (x:=x)
 exact {
  vs:=fun t ht=>hg.vs t fun q=>ht (by
   show t∈gd sh++(W++s.dR);rw[<-kR];exact xM _ q)
  dR:=fun t ht=>qp _ (qp _ ht)
  cL:=fun t ht=>qp _ (qp _ ht)
  aQ:=hg.aQ
  aE:=hg.aE
  mem:=fun o w cs h=>by
   obtain⟨cs',h1,h2,au⟩:=hg.mem o w cs h;exact⟨cs',h1,h2,fun j hj=>au j fun q=>hj (cL q)⟩
  row:=fun o aY hc h=>(hg.row o aY hc h).imp id cL}
theorem Sy{n m:Nat}{sh:nI J}{y:dF J (jd sh)}(h:DU n m W M sh s1=some y):(∀t∈s1.dR,t∈W)/\(∀o j,(o,j)∈s1.cL->o<m->(o,j)∈M++iD sh)/\pg n m (M++iD sh) s1 [] sh=some y:=by
 unfold DU at h;split at h
 ·cases h
 ·rename_i ad
  split at h
  ·rename_i e2;exact⟨Sq ad,Sr e2,h⟩
  ·cases h
theorem ad4{x y:X}(h:L5 x y=true):x=y:=by
 cases x<;>cases y<;>simp only[L5]at h<;>first|rfl|cases h|rw[eU h]
theorem Sz{A:Type}[aP A]{S:A->Prop}{n m:Nat}{x:X}{k:X->bE J->A}:∀{os:yR J} {o:Bi J (Bm os)},Bn n m W M x s1 os=some o->∃(sh:nI J) (y:dF J (jd sh)),DU n m W M sh s1=some y/\(S (leave W M s k os o)->S (k x (enter W M sh y s)))
 |[],_,h=>by cases h
 |[(e1,sh)],o,h=>by
  simp only[Bn]at h;split at h
  ·rename_i e;rw[ad4 e];exact⟨sh,o,h,fun q=>q⟩
  ·cases h
 |(e1,sh)::q::r,o,h=>by
  simp only[Bn]at h;split at h
  ·rename_i e
   split at h
   ·rename_i y hy
    cases h;rw[ad4 e];exact⟨sh,y,hy,fun q=>q⟩
   ·cases h
  ·split at h
   ·rename_i y hy
    cases h;obtain⟨aso,oL,h1,h2⟩:=Sz (S:=S) (k:=k) hy;exact⟨aso,oL,h1,h2⟩
   ·cases h
end
end Go.Abs.hv
