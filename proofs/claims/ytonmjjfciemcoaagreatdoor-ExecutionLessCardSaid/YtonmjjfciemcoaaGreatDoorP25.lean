/- Texts of this claim, joined and written short by a program. -/
import Derived.Test.YtonmjjfciemcoaaGreatDoorP24
import Derived.Test.YtonmjjfciemcoaaGreatDoorP00
set_option linter.unusedVariables false
set_option linter.unusedSimpArgs false
set_option linter.unusedSectionVars false
namespace Go.Abs.gB
open Go Go.Abs
section
variable{U:iQ}{b:Nat}{F:cG}{fs:List V}{s s1 s2 cT:bA U}{σ cU:bW}{H H1:Heap}{G az:Nat->List (Nat × b5)}{ρ gf:List V}{aa:Nat->Option bU}{cx:oj U}{W W':List Nat}{M M':List (Nat × Nat)}
mutual
theorem S6{B:List Bool}:∀{v w:aO U.ax} {u:V},same v w=true->b3 U B ρ fs v u->b3 U B ρ fs w u
 |v,w,u,h,ad=>by
  unfold same at h;split at h
  ·split at h<;>first|exact ad|cases h
  ·split at h
   ·rename_i e;rw[eE e]at ad;exact ad
   ·rename_i e;rw[eE e]at ad;exact ad
   ·cases h
  ·split at h
   ·rename_i e
    have e:=of_decide_eq_true e;have ak:=of_decide_eq_true h;subst e;subst ak;exact ad
   ·cases h
  ·rw[wE _ _ h]at ad;exact ad
  ·split at h
   ·rename_i e;rw[eE e,eE h]at ad;exact ad
   ·cases h
  ·rw[eE h]at ad;exact ad
  ·split at h
   ·rename_i e
    cases ad with
    |fn ad=>rw[eE e];exact .fn (S7 h ad)
   ·cases h
  ·cases ad with
   |agg ad=>exact .agg (S7 h ad)
  ·rw[of_decide_eq_true h]at ad;exact ad
  ·cases h
theorem S7{B:List Bool}:∀{vs ws:List (aO U.ax)} {us:List V},BB vs ws=true->bD U B ρ fs vs us->bD U B ρ fs ws us
 |[],[],_,_,h=>h
 |[],_::_,_,h,_=>by simp[BB]at h
 | _::_,[],_,h,_=>by simp[BB]at h
 |v::vs,w::ws,_,h,.cons ad r=>by
  simp only[BB]at h;split at h
  ·rename_i e;exact .cons (S6 e ad) (S7 h r)
  ·cases h
end
theorem IH{α:Type}{l fk:List α}(h:l <+: fk){i:Nat}{a:α}(hi:fk[i]? =some a)(hl:i<l.length):l[i]? =some a:=by
 obtain⟨t,rfl⟩:=h;rwa [e5 hl]at hi
theorem II{i n:Nat}(h:Nat.blt i n=true):i<n:=mh h
mutual
theorem M0{B y4:List Bool}(dc:B <+: y4)(aP:ρ <+: gf):∀{v:aO U.ax} {w:V},wf B.length ρ.length v=true->b3 U y4 gf fs v w->b3 U B ρ fs v w
 | _,_,_,.int=>.int
 | _,_,_,.cw=>.cw
 | _,_,h,.bo q=>.bo (IH dc q (II (by simpa only[wf]using h)))
 | _,_,_,.str=>.str
 | _,_,_,.sl=>.sl
 | _,_,_,.k=>.k
 | _,_,h,.agg q=>.agg (IJ dc aP (by simpa only[wf]using h) q)
 | _,_,h,.aU q=>.aU (IJ dc aP (by simpa only[wf]using h) q)
 | _,_,h,.dO q=>.dO (IJ dc aP (by simpa only[wf]using h) q)
 | _,_,h,.ptr q=>.ptr (IH aP q (II (by simpa only[wf]using h)))
 | _,_,h,.row q=>.row (IH aP q (II (by simpa only[wf]using h)))
 | _,_,h,.jt q=>.jt (IH aP q (II (by simpa only[wf]using h)))
 | _,_,h,.lp q r=>.lp (IH aP q (II (by simpa only[wf]using h))) r
 | _,_,h,.fn q=>.fn (IJ dc aP (by simpa only[wf]using h) q)
 | _,_,_,.fv q=>.fv q
 | _,_,_,.lq=>.lq
theorem IJ{B y4:List Bool}(dc:B <+: y4)(aP:ρ <+: gf):∀{vs:List (aO U.ax)} {ws:List V},BC B.length ρ.length vs=true->bD U y4 gf fs vs ws->bD U B ρ fs vs ws
 | _,_,_,.nil=>.nil
 | _,_,h,.cons q r=>by
   simp only[BC]at h;split at h
   ·rename_i e;exact .cons (M0 dc aP e q) (IJ dc aP h r)
   ·cases h
end
structure iD (W:List Nat) (M:List (Nat × Nat)) (s s1:bA U):Prop where
 vs:∀t,t∉W->bj s1.vs t=bj s.vs t
 aK:s.aK <+: s1.aK
 aD:s.aD<=s1.aD
 mem:∀o w cs,bj s.mem o=some (.cells w cs)->∃cs',bj s1.mem o=some (.cells w cs')/\cs'.length=cs.length/\∀j:Nat,(o,j)∉M->cs'[j]? =cs[j]?
 row:∀o aV,uy aV=false->bj s.mem o=some aV->bj s1.mem o=some aV\/(o,0)∈M
theorem iD.rfl:iD W M s s:=⟨fun _ _=>Eq.refl _,dW,aH _,fun o w cs h=>⟨cs,h,Eq.refl _,fun _ _=>Eq.refl _⟩,fun _ _ _ h=>.inl h⟩
theorem iD.trans (h:iD W M s s1)(k:iD W M s1 s2):iD W M s s2 where
 vs:=fun t ht=>(k.vs t ht).trans (h.vs t ht)
 aK:=h.aK.trans k.aK
 aD:=cY h.aD k.aD
 mem:=fun o w cs hm=>by
  obtain⟨pV,h1,h2,ar⟩:=h.mem o w cs hm;obtain⟨ID,bQ,c6,iX⟩:=k.mem o w pV h1;exact⟨ID,bQ,c6.trans h2,fun j hj=>(iX j hj).trans (ar j hj)⟩
 row:=fun o aV hc hm=>(h.row o aV hc hm).elim (k.row o aV hc) .inr
theorem iD.wide (h:iD W M s s1)(hW:∀t∈W,t∈W')(kT:∀p∈M,p∈M'):iD W' M' s s1 where
 vs:=fun t ht=>h.vs t fun q=>ht (hW t q)
 aK:=h.aK
 aD:=h.aD
 mem:=fun o w cs hm=>by
  obtain⟨pV,h1,h2,ar⟩:=h.mem o w cs hm;exact⟨pV,h1,h2,fun j hj=>ar j fun q=>hj (kT _ q)⟩
 row:=fun o aV hc hm=>(h.row o aV hc hm).imp id (kT _)
theorem Fr.gZ (h:Fr s s1)(lt:∀e∈s.mem,e.1<s.aD)(hW:∀t∈s1.dL,t∈W)(kT:∀o j,(o,j)∈s1.cI->o<s.aD->(o,j)∈M):iD W M s s1 where
 vs:=fun t ht=>h.vs t fun q=>ht (hW t q)
 aK:=h.aK
 aD:=h.aD
 mem:=fun o w cs hm=>by
  obtain⟨pV,h1,h2,ar⟩:=h.mem o w cs hm;exact⟨pV,h1,h2,fun j hj=>ar j fun q=>hj (kT _ _ q (lt _ (ju hm)))⟩
 row:=fun o aV hc hm=>(h.row o aV hc hm).imp id fun q=>kT _ _ q (lt _ (ju hm))
theorem IK{α:Type}{l:List (Nat × α)}{o:Nat}{c:α}(h:bj l o=some c):o∈l.map Prod.fst:=dZ.2 ⟨_,ju h,rfl⟩
theorem S8:∀{l:List Nat},Iq W l=true->∀t∈l,t∈W
 |[],_,_,h=>by cases h
 |a::l,h,t,ht=>by
  simp only[Iq]at h;split at h
  ·rename_i e
   rcases dx.1 ht with rfl|ht
   ·exact(mem_iff _ _).1 e
   ·exact S8 h t ht
  ·cases h
theorem BW{o j:Nat}:∀{l:List (Nat × Nat)},rI o j l=true↔(o,j)∈l
 |[]=>by simp[rI]
 |(a,c)::r=>by
  have ih:=BW (o:=o) (j:=j) (l:=r);have ne:∀{x y:Nat},Nat.beq x y=false->¬y=x:=fun h e=>by rw[e,zM]at h;cases h
  unfold rI;rw[dx,bx];cases h1:Nat.beq a o<;>cases h2:Nat.beq c j
  ·simp[ne h1,ih]
  ·simp[ne h1,ih]
  ·simp[ne h2,ih]
  ·simp[eE h1,eE h2]
theorem S9{n:Nat}:∀{l:List (Nat × Nat)},Ir n M l=true->∀o j,(o,j)∈l->o<n->(o,j)∈M
 |[],_,_,_,h,_=>by cases h
 |(a,c)::l,h,o,j,hm,hn=>by
  simp only[Ir]at h;split at h
  ·rename_i e
   rcases dx.1 hm with q|hm
   ·cases q
    have:=mh e;omega
   ·exact S9 h o j hm hn
  ·split at h
   ·rename_i e
    rcases dx.1 hm with q|hm
    ·cases q;exact BW.1 e
    ·exact S9 h o j hm hn
   ·cases h
theorem _root_.Go.Abs.Own.pick{H:Heap}{ids l:List Nat}{G:Nat->List (Nat × b5)}{F:cG}(h:Own H (ids.map G++F))(hn:l.Nodup)(hs:∀o∈l,o∈ids):Own H (l.map G++F):=by
 have at_:∀{o:Nat},o∈ids->∃k:Nat,k<ids.length/\ids[k]? =some o/\(ids.map G++F)[k]? =some (G o):=fun {o} ho=>by
  obtain⟨k,hk⟩:=pY.1 ho;have aT:=(fj.1 hk).1;exact⟨k,aT,hk,by rw[e5 (by simpa using aT),hL,hk];rfl⟩
 refine⟨fun m hm p hp=> ?_,?_⟩
 ·rcases iq.1 hm with hm|hm
  ·obtain⟨o,ho,rfl⟩:=dZ.1 hm
   exact h.1 _ (x5 _ (r2 (hs o ho))) p hp
  ·exact h.1 _ (pZ _ hm) p hp
 ·rw[kk,Wp]
  refine⟨?_,?_,?_⟩
  ·rw[kX,List.pairwise_map]
   refine List.Pairwise.imp_of_mem ?_ hn;intro i j hi hj cF a ha gQ;obtain⟨avd,_,q1,q2⟩:=at_ (hs i hi);obtain⟨afG,_,cn,c7⟩:=at_ (hs j hj);obtain⟨p,hp,rfl⟩:=dZ.1 ha;obtain⟨q,bf,e⟩:=dZ.1 gQ;exact h.LJ q2 c7 (fun e=>cF (by rw[e,cn]at q1;cases q1;rfl)) hp bf e.symm
  ·have:=h.2
   rw[kk,Wp]at this;exact this.2.1
  ·intro x hx y hy a ha gQ
   obtain⟨m,hm,rfl⟩:=dZ.1 hx;obtain⟨o,ho,rfl⟩:=dZ.1 hm;obtain⟨m',h7,rfl⟩:=dZ.1 hy;obtain⟨avd,aT,_,q2⟩:=at_ (hs o ho);obtain⟨afG,hj⟩:=pY.1 h7;have c7:(ids.map G++F)[ids.length+afG]? =some m':=by rw[pX (by simp)];simpa using hj
   obtain⟨p,hp,rfl⟩:=dZ.1 ha;obtain⟨q,bf,e⟩:=dZ.1 gQ;exact h.LJ q2 c7 (by omega) hp bf e.symm
theorem _root_.Go.Abs.Own.ave{H:Heap}{ids:List Nat}{l:List (Option Nat)}{G:Nat->List (Nat × b5)}{F:cG}(h:Own H (ids.map G++F))(hn:(l.filterMap id).Nodup)(hs:∀o∈l.filterMap id,o∈ids):Own H ((l.map fun x=>x.elim [] G)++F):=by
 have nl:∀{pre X:cG},Own H (pre++X)->Own H (pre++[]::X):=fun {pre X} h=>by
  refine⟨fun m hm p hp=> ?_,?_⟩
  ·rcases iq.1 hm with q|q
   ·exact h.1 m (x5 _ q) p hp
   ·rcases dx.1 q with rfl|q
    ·cases hp
    ·exact h.1 m (pZ _ q) p hp
  ·have:=h.2
   rw[kk,Wp]at this;rw[kk,Wp,dv,JY];refine⟨this.1,⟨fun _ _ a ha=>by simp at ha,this.2.1⟩,fun x hx y hy a ha=> ?_⟩;rcases dx.1 hy with rfl|hy
   ·simp
   ·exact this.2.2 x hx y hy a ha
 have key:∀(l:List (Option Nat)) (pre:cG),Own H (pre++((l.filterMap id).map G++F))->Own H (pre++((l.map fun x=>x.elim [] G)++F)):=by
  intro l
  induction l with
  |nil=>exact fun _ h=>h
  |cons x l ih=>
   intro pre h;cases x with
   |none=>exact nl (ih pre h)
   |some o=>
    have:=ih (pre++[G o]) (by simpa using h);simpa using this
 exact key l [] (h.pick hn hs)
theorem BX:∀l:List (Nat × ck U),((rK M l).map Prod.fst).Sublist (l.map Prod.fst)
 |[]=>J0 _
 |(o,c)::r=>by
  simp only[rK];split
  ·exact(BX r).cons_cons _
  ·split
   ·exact(BX r).cons _
   ·exact(BX r).cons_cons _
theorem M1{o:Nat}{w:Bool}{cs:List (aO U.ax)}:∀{l:List (Nat × ck U)},bj l o=some (.cells w cs)->bj (rK M l) o=some (.cells w (sW o M 0 cs))
 |(a,c)::r,h=>by
  rw[fZ]at h;simp only[rK];split at h
  ·rename_i e
   cases h;subst e;simp only[fZ,if_pos]
  ·rename_i e
   split
   ·rw[fZ,if_neg e];exact M1 h
   ·split
    ·exact M1 h
    ·rw[fZ,if_neg e];exact M1 h
theorem M3{o:Nat}{aV:ck U}(hc:uy aV=false)(kT:(o,0)∉M):∀{l:List (Nat × ck U)},bj l o=some aV->bj (rK M l) o=some aV
 |(a,c)::r,h=>by
  rw[fZ]at h;simp only[rK];split at h
  ·rename_i e
   cases h;subst e
   have:rI a 0 M=false:=by
    cases e:rI a 0 M with
    |false=>rfl
    |true=>exact absurd (BW.1 e) kT
   cases aV with
   |cells=>cases hc
   | _=>simp only[this,fZ,if_pos]
  ·rename_i e
   split
   ·rw[fZ,if_neg e];exact M3 hc kT h
   ·split
    ·exact M3 hc kT h
    ·rw[fZ,if_neg e];exact M3 hc kT h
theorem BZ{o:Nat}{c':ck U}:∀{l:List (Nat × ck U)},(o,c')∈rK M l->(∃w cs,(o,.cells w cs)∈l/\c'=.cells w (sW o M 0 cs))\/((o,c')∈l/\uy c'=false/\(o,0)∉M)
 |(a,c)::r,h=>by
  have up:((∃w cs,(o,.cells w cs)∈r/\c'=.cells w (sW o M 0 cs))\/((o,c')∈r/\uy c'=false/\(o,0)∉M))->(∃w cs,(o,.cells w cs)∈(a,c)::r/\c'=.cells w (sW o M 0 cs))\/((o,c')∈(a,c)::r/\uy c'=false/\(o,0)∉M):=
   Or.imp (fun⟨w,cs,h1,h2⟩=>⟨w,cs,kW _ h1,h2⟩) fun⟨h1,h2⟩=>⟨kW _ h1,h2⟩
  simp only[rK]at h;split at h
  ·rcases dx.1 h with e|h
   ·cases e;exact .inl ⟨_,_,p5 ..,rfl⟩
   ·exact up (BZ h)
  ·rename_i hc
   split at h
   ·exact up (BZ h)
   ·rename_i ak
    rcases dx.1 h with e|h
    ·cases e
     refine .inr ⟨p5 ..,?_,fun q=>by rw[BW.2 q]at ak;cases ak⟩;cases c' with
     |cells w cs=>exact absurd rfl (hc w cs)
     | _=>rfl
    ·exact up (BZ h)
theorem afH{o:Nat}:∀(cs:List (aO U.ax)) (i:Nat),(sW o M i cs).length=cs.length
 |[],_=>rfl
 |c::r,i=>by simp[sW,afH r]
theorem afI{o:Nat}:∀(cs:List (aO U.ax)) (i j:Nat),(o,i+j)∉M->(sW o M i cs)[j]? =cs[j]?
 |[],_,_,_=>rfl
 |c::r,i,0,h=>by
  have:rI o i M=false:=by
   cases e:rI o i M with
   |false=>rfl
   |true=>exact absurd (BW.1 e) h
  simp[sW,this]
 |c::r,i,j+1,h=>by
  simp only[sW,CC];exact afI r (i+1) j (by rwa [JX,qV])
theorem Ta{t:Nat}:∀(l:List Nat) (r:List (Nat × aO U.ax)),bj ((l.map fun t=>(t,aO.lq))++r) t=if t∈l then some .lq else bj r t
 |[],r=>by simp
 |a::l,r=>by
  rw[dv,mi,fZ,Ta l r];by_cases e:a=t
  ·subst e;simp
  ·simp[e,ly e]
theorem afJ:iD W M s (blank W M s) where
 vs:=fun t ht=>by unfold blank;simp only;rw[Ta,if_neg ht]
 aK:=dW
 aD:=aH _
 mem:=fun o w cs hm=>⟨_,M1 hm,afH _ _,fun j hj=>afI _ _ _ (by rwa [dA])⟩
 row:=fun o aV hc hm=>(Decidable.em ((o,0)∈M)).elim .inr fun q=>.inl (M3 hc q hm)
theorem afK{o:Nat}{B y4:List Bool}(dc:B <+: y4)(aP:ρ <+: gf):∀{cs pV:List (aO U.ax)} {afL ws:List V} (i:Nat),bD U B ρ fs cs afL->bD U y4 gf fs pV ws->pV.length=cs.length->(∀j:Nat,(o,i+j)∉M->pV[j]? =cs[j]?)->bD U B ρ fs (sW o M i cs) ws
 | _,_,_,_,i,.nil,.nil,_,_=>.nil
 | _,_,_,_,i,.nil,.cons _ _,hl,_=>by cases hl
 | _,_,_,_,i,.cons _ _,.nil,hl,_=>by cases hl
 |c::cs,df::pV,_,_,i,.cons h r,.cons h1 bB,hl,hj=>by
  refine .cons ?_ (afK dc aP (i+1) r bB (by simpa using hl) fun j q=>by
   have:=hj (j+1) (by rwa [JX,qV]at q);simpa using this)
  split
  ·exact .lq
  ·rename_i e
   have:(o,i)∉M:=fun q=>by rw[BW.2 q]at e;cases e
   have:=hj 0 (by rwa [x9]);simp only[o8,aB]at this;subst this;exact h.back dc aP h1
theorem afM (R:b7 U b F fs s σ H G ρ)(bP:b7 U b F fs s1 cU H1 az gf)(aP:ρ <+: gf)(gZ:iD W M s s1):b7 U b F fs (blank W M s) cU H1 az ρ where
 aD:=R.aD
 vs:=fun t v h=>by
  have h:bj ((W.map fun t=>(t,aO.lq))++s.vs) t=some v:=h;rw[Ta]at h;split at h
  ·cases h;exact .lq
  ·rename_i e
   have h1:=h;rw[<-gZ.vs t e]at h1;exact(R.vs t v h).back gZ.aK aP (bP.vs t v h1)
 own:=by
  have af:∀l:List (Nat × ck U),l.map (fun e=>az e.1)=(l.map Prod.fst).map az:=fun l=>by rw[kX];rfl
  have:=bP.own;unfold dz at this⊢;rw[af]at this⊢;refine this.pick (R.dk.sublist (BX _)) fun o ho=> ?_;obtain⟨⟨o',c⟩,he,rfl⟩:=dZ.1 ho;rcases BZ he with⟨w,cs,h1,-⟩|⟨h1,hc,h2⟩
  ·obtain⟨cs',ar,-⟩:=gZ.mem _ _ _ (xx R.dk h1)
   exact IK ar
  ·exact IK ((gZ.row _ _ hc (xx R.dk h1)).resolve_right h2)
 dk:=R.dk.sublist (BX _)
 lt:=fun e he=>by
  have:=(BX (M:=M) s.mem).subset (r2 (f:=Prod.fst) he);obtain⟨e',h1,h2⟩:=dZ.1 this;rw[<-h2];exact R.lt e' h1
 mem:=fun o aV h=>by
  have h:bj (rK M s.mem) o=some aV:=h;rcases BZ (ju h)with⟨w,cs,hm,rfl⟩|⟨hm,hc,kT⟩
  ·have hm:=xx R.dk hm
   obtain⟨pV,h1,h2,ar⟩:=gZ.mem o w cs hm;obtain⟨a0,afL,p1,p2,p3,k8⟩:=R.mem o _ hm;obtain⟨a,ws,q1,q2,cn,c7⟩:=bP.mem o _ h1;have:=lN aP p1;rw[q1]at this;cases this;exact⟨_,ws,p1,q2,afK gZ.aK aP 0 p3 cn h2 (fun j hj=>ar j (by rwa [dA]at hj)),c7⟩
  ·have hm:=xx R.dk hm
   have h0:=R.mem o _ hm;have h1:=bP.mem o _ ((gZ.row o aV hc hm).resolve_right kT);cases aV with
   |cells=>cases hc
   |row t x=>
    obtain⟨v0,p1,p2⟩:=h0;obtain⟨v,q1,q2⟩:=h1;have:=lN aP p1;rw[q1]at this;cases this;exact⟨_,p1,q2⟩
   |fz t x=>
    obtain⟨v0,m0,p1,p2⟩:=h0;obtain⟨v,m1,q1,q2⟩:=h1;have:=lN aP p1;rw[q1]at this;cases this;exact⟨_,_,p1,q2⟩
   |mp k w x=>
    obtain⟨v0,p1,p2⟩:=h0;obtain⟨v,q1,q2⟩:=h1;have:=lN aP p1;rw[q1]at this;cases this;exact⟨_,p1,q2⟩
 dQ:=R.dQ
def Tb (σ:bW)(G:Nat->List (Nat × b5)):Loc->V->Prop
 | .s t,w=>w=σ t
 | .m o j,w=>∃a ws,G o=[(a,.cells ws)]/\ws[j]? =some w
theorem B0 (R:b7 U b F fs s σ H G ρ){l:Loc}{v:aO U.ax}(h:at_ s l=some v):∃w,Tb σ G l w/\b3 U s.aK ρ fs v w:=by
 cases l with
 |s t=>exact⟨_,rfl,R.vs t v h⟩
 |m o j=>
  simp only[at_]at h;split at h
  ·rename_i wr cs hm
   obtain⟨a,ws,q1,q2,cn,c7⟩:=R.mem o _ hm;rw[xl]at h;obtain⟨w,af,ak⟩:=cn.get h;exact⟨w,⟨a,ws,q2,af⟩,ak⟩
  ·cases h
theorem Lj{α:Type}{l:List α}{j:Nat}{a:α}(h:l[j]? =some a):l.set j a=l:=by
 apply oA;intro i;by_cases e:j=i
 ·subst e;rw[nI (fj.1 h).1,h]
 ·rw[jx e]
def afN (s:bA U)(σ:bW)(G:Nat->List (Nat × b5)):Loc->V->Prop
 | .s t,w=>w=σ t
 | .m o j,w=>∀wr cs,bj s.mem o=some (.cells wr cs)->∃a ws,G o=[(a,.cells ws)]/\ws[j]? =some w
theorem EE (R:b7 U b F fs s σ H G ρ){l:Loc}{v:aO U.ax}{w:V}(hw:afN s σ G l w)(ad:b3 U s.aK ρ fs v w):b7 U b F fs (kQ s l v) σ H G ρ:=by
 cases l with
 |s t=>
  cases hw;refine⟨R.aD,fun k u h=> ?_,R.own,R.dk,R.lt,R.mem,R.dQ⟩;have h:bj ((t,v)::s.vs) k=some u:=h;rw[fZ]at h;split at h
  ·rename_i e;cases h;subst e;exact ad
  ·exact R.vs k u h
 |m o j=>
  simp only[kQ];split
  ·rename_i wr cs hm
   obtain⟨a,ws,af,ak⟩:=hw wr cs hm;refine⟨R.aD,R.vs,?_,?_,fun e he=> ?_,fun q aV h=> ?_,R.dQ⟩
   ·have:=R.own
    unfold dz at this⊢;have af:∀l:List (Nat × ck U),l.map (fun e=>G e.1)=(l.map Prod.fst).map G:=fun l=>by rw[kX];rfl
    simp only;rw[af,vD,<-af];exact this
   ·simp only[vD];exact R.dk
   ·have:e.1∈(je o (.cells wr (cs.set j v)) s.mem).map Prod.fst:=r2 he
    rw[vD]at this;obtain⟨e',h1,h2⟩:=dZ.1 this;rw[<-h2];exact R.lt e' h1
   ·simp only[uw]at h
    split at h
    ·rename_i e;subst e
     rw[hm]at h;cases h;obtain⟨bk,eK,q1,q2,cn,c7⟩:=R.mem q _ hm;rw[q2]at af;cases af;refine⟨_,_,q1,q2,?_,c7⟩;have:=cn.set j ad;rwa [Lj ak]at this
    ·exact R.mem q aV h
  ·exact R
theorem M4{l:Loc}{v:aO U.ax}:(kQ s l v).aK=s.aK:=by
 cases l with
 |s t=>rfl
 |m o j=>simp only[kQ];split<;>rfl
theorem afO{l:Loc}{v:aO U.ax}:(kQ s l v).mem.map Prod.fst=s.mem.map Prod.fst/\(kQ s l v).aD=s.aD:=by
 cases l with
 |s t=>exact⟨rfl,rfl⟩
 |m o j=>simp only[kQ];split<;>simp[vD]
theorem avf{l:Loc}{v:aO U.ax}{q:Nat}{w:Bool}{cs:List (aO U.ax)}(h:bj (kQ s l v).mem q=some (.cells w cs)):∃cs,bj s.mem q=some (.cells w cs):=by
 cases l with
 |s t=>exact⟨_,h⟩
 |m o j=>
  simp only[kQ]at h;split at h
  ·rename_i wr cs' hm
   simp only[uw]at h;split at h
   ·rename_i e;subst e;rw[hm]at h⊢; cases h;exact⟨_,rfl⟩
   ·exact⟨_,h⟩
  ·exact⟨_,h⟩
theorem afP (aY:gp U){c:Nat}{y:U.ax c}{aV:ck U}{v:aO U.ax}{w:V}(h:MI c v=some y)(ad:b3 U [] [] [] v w)(h':rowAt c y=some aV):∃ey oI,aV=.row ey oI/\w=bn (U.es ey) (U.enc ey) oI:=by
 unfold MI at h;split at h
 ·cases h
 ·rename_i hn
  unfold rowAt at h';split at h'
  ·rename_i p hp;rw[hn]at hp;cases hp
  ·split at h'
   ·rename_i ey oI hs
    cases h';refine⟨ey,oI,rfl,?_⟩;have af:=aY.jd c _ _ _ _ _ y ad h;have ak:=aY.hS c y [] [] [];rw[nL,hs]at ak;rw[af];generalize U.enc c y=u at ak;cases ak;rfl
   ·cases h'
theorem avg{A B:Type}(h:A=B)(x:B):(h ▸ (h.symm ▸ x:A):B)=x:=by subst h;rfl
theorem avh{c eI kc:Nat}{x:List (U.ax eI × U.ax kc)}{y:U.ax c}(h:SB c eI kc x=some y):rowAt c y=some (.mp eI kc x):=by
 unfold SB at h;split at h
 ·cases h
 ·rename_i p hp
  split at h
  ·rename_i e
   subst e;cases h;unfold rowAt;split
   ·rename_i Ac qm
    rw[hp]at qm;cases qm;congr 2;exact avg _ _
   ·rename_i hn;rw[hp]at hn;cases hn
  ·cases h
theorem avi{α β:Type}{es bN:Nat}{f:α->V}{ml:β->V}{x:ae α}{fQ:ae β}{v:V}{m:List (Nat × b5)}(h:bn es f x=bn bN ml fQ)(hr:fE b es f v x m):fE b bN ml v fQ m:=by
 unfold fE at hr⊢;cases x with
 |nil=>cases fQ<;>cases h;cases hr;exact .nil
 |emp=>cases fQ<;>cases h;cases hr;exact .emp
 |mk l=>cases fQ with
  |mk fk=>
   simp only[bn,V.list.injEq]at h;obtain⟨rfl,h⟩:=h;simp only[ae.map,h]at hr;exact hr
  |nil=>cases h
  |emp=>cases h
theorem avj{α:Type}{es:Nat}{f:α->V}{x:ae α}{v:aO U.ax}{w:V}{c:aO U.ax}(hn:sU v=some c)(ad:b3 U [] [] [] c w)(h:w=bn es f x):fE b es f w x []:=by
 unfold sU at hn;split at hn<;>cases hn<;>cases ad<;>cases x<;>cases h<;>first|exact .nil|exact .emp
theorem avk{B:List Bool}{v c:aO U.ax}{w:V}(hn:sU v=some c)(ad:b3 U B ρ fs v w):b3 U [] [] [] c w:=by
 unfold sU at hn;split at hn<;>cases hn<;>cases ad<;>exact .k
structure Fit (az:Nat->List (Nat × b5)) (s1 cT:bA U) (m:Nat) (M:List (Nat × Nat)) (u:List Nat) (f:Nat->Option Nat):Prop where
 ids:∀o∈(cT.mem.map Prod.fst).filterMap f,o∈s1.mem.map Prod.fst
 dk:((cT.mem.map Prod.fst).filterMap f).Nodup
 cells:∀q w cs,bj cT.mem q=some (.cells w cs)->f q=some q
 row:∀o aV,uy aV=false->bj s1.mem o=some aV->mem o u=false->(m<=o\/(o,0)∈M)->o∉(cT.mem.map Prod.fst).filterMap f
theorem Fit.kQ{m:Nat}{u:List Nat}{f:Nat->Option Nat}(h:Fit az s1 cT m M u f){B:List Bool}{l:Loc}{v:aO U.ax}:Fit az s1 (kQ {cT with aK:=B} l v) m M u f:=by
 have e:=(afO (s:={cT with aK:=B}) (l:=l) (v:=v)).1;refine⟨by rw[e];exact h.ids,by rw[e];exact h.dk,fun q w cs bf=> ?_,by rw[e];exact h.row⟩;obtain⟨cs',h1⟩:=avf bf;exact h.cells q w cs' h1
theorem Tc{m:Nat}{u:List Nat}{f:Nat->Option Nat}(h:Fit az s1 cT m M u f){l:Loc}{w:V}(hw:Tb cU az l w):afN cT cU (fun q=>(f q).elim [] az) l w:=by
 cases l with
 |s t=>exact hw
 |m o j=>
  intro wr cs hm;show ∃a ws,(f o).elim [] az=[(a,b5.cells ws)]/\ws[j]? =some w;rw[h.cells o wr cs hm];exact hw
theorem afQ{α β:Type}{f g:α->Option β}:∀{l:List α},(∀a∈l,f a=g a)->l.filterMap f=l.filterMap g
 |[],_=>rfl
 |a::l,h=>by rw[JW,JW,h a (p5 ..),afQ fun b hb=>h b (kW _ hb)]
theorem Fit.add{m:Nat}{u u':List Nat}{f:Nat->Option Nat}(h:Fit az s1 cT m M u f)(bP:b7 U b F fs s1 cU H1 az gf){uz:List V}(R:b7 U b F fs cT cU H1 (fun q=>(f q).elim [] az) uz){aV:ck U}{v:V}{l:Loc}(x:Option Nat)
  (hx:∀o,x=some o->o∈s1.mem.map Prod.fst/\o∉(cT.mem.map Prod.fst).filterMap f/\mem o u'=true) (hu:∀o,mem o u'=false->mem o u=false) (hc:uy aV=false) (hr:∀B cS,cS[cT.aD]? =some v->pU U b B cS fs cT.aD (x.elim [] az) aV) (hw:Tb cU az l v):
  ∃ml:Nat->Option Nat,Fit az s1 (gB.kQ (kP cT aV) l (.row cT.aD)) m M u' ml/\b7 U b F fs (gB.kQ (kP cT aV) l (.row cT.aD)) cU H1 (fun q=>(ml q).elim [] az) (uz++[v]):=by
 refine⟨fun q=>if q=cT.aD then x else f q,?_⟩
 have bg:∀q∈cT.mem.map Prod.fst,¬q=cT.aD:=fun q bf e=>by
  obtain⟨p,hp,e'⟩:=dZ.1 bf;exact absurd (R.lt p hp) (by rw[e',e];exact Nat.lt_irrefl _)
 have Ez:(kP cT aV).mem.map Prod.fst=cT.aD::cT.mem.map Prod.fst:=rfl
 have em:(cT.aD::cT.mem.map Prod.fst).filterMap (fun q=>if q=cT.aD then x else f q)=x.toList++(cT.mem.map Prod.fst).filterMap f:=by
  have:(cT.mem.map Prod.fst).filterMap (fun q=>if q=cT.aD then x else f q)=(cT.mem.map Prod.fst).filterMap f:=afQ fun q bf=>if_neg (bg q bf);rw[JW,if_pos rfl,this];cases x<;>rfl
 have M5:Fit az s1 (kP cT aV) m M u' (fun q=>if q=cT.aD then x else f q):=by
  refine⟨?_,?_,fun q w cs bf=> ?_,?_⟩
  ·rw[Ez,em]
   intro o ho;rcases iq.1 ho with q|q
   ·exact(hx o (by simpa using q)).1
   ·exact h.ids o q
  ·rw[Ez,em,uT]
   exact⟨by cases x<;>simp,h.dk,fun a ha c hc e=>by subst e;exact(hx a (by simpa using ha)).2.1 hc⟩
  ·have bf:bj ((cT.aD,aV)::cT.mem) q=some (.cells w cs):=bf
   rw[fZ]at bf;split at bf
   ·cases bf;cases hc
   ·rename_i e;rw[if_neg (ly e)];exact h.cells q w cs bf
  ·rw[Ez,em]
   intro o avl h0 h1 h2 ar aS;rcases iq.1 aS with q|q
   ·rw[(hx o (by simpa using q)).2.2]at h2;cases h2
   ·exact h.row o avl h0 h1 (hu o h2) ar q
 have DB:(fun q=>if q=cT.aD then x.elim [] az else(f q).elim [] az)=fun q=>(if q=cT.aD then x else f q).elim [] az:=by
  funext q;split<;>rfl
 have aw:Own H1 (x.elim [] az::dz cT (fun q=>(f q).elim [] az) F):=by
  have af:∀l:List (Nat × ck U),l.map (fun e=>az e.1)=(l.map Prod.fst).map az:=fun l=>by rw[kX];rfl
  have h1:=bP.own;unfold dz at h1⊢;rw[af]at h1
  have h2:=h1.ave (l:=x::(cT.mem.map Prod.fst).map f) (by
   rw[JW,List.filterMap_map];have:=M5.dk;rw[Ez,em]at this;cases x<;>exact this) (by
   have:=M5.ids;rw[Ez,em]at this;rw[JW,List.filterMap_map];cases x<;>exact this)
  simpa[Function.comp_def]using h2
 have eB:=R.add aw (aV:=aV) (v:=v) (hr _ _ (R.new v));rw[DB]at eB;have gI:=M5.kQ (B:=(kP cT aV).aK) (l:=l) (v:=.row cT.aD);exact⟨gI,EE eB (Tc M5 hw) (.row (R.new v))⟩
theorem y5 (aY:gp U)(bP:b7 U b F fs s1 cU H1 az gf)(aP:ρ <+: gf){B:List Bool}(o3:B <+: s1.aK):∀{sh:nB U} {u:List Nat} {x:ee U (jf sh)} {cT:bA U} {f:Nat->Option Nat} {uz:List V},b7 U b F fs cT cU H1 (fun q=>(f q).elim [] az) uz->B <+: cT.aK->ρ <+: uz->Fit az s1 cT ρ.length M u f->
   o1 B.length ρ.length M s1 u sh=some x->∃G' cS,b7 U b F fs (rJ sh x cT) cU H1 G' cS/\ρ <+: cS
 |[],u,_,cT,f,uz,R,_,rN,_,_=>⟨_,_,R,rN⟩
 |(l,.p t)::r,u,x,cT,f,uz,R,dc,rN,cH,h=>by
  simp only[o1]at h;split at h
  ·cases h
  ·rename_i v ad
   split at h
   ·cases h
   ·rename_i y hy
    split at h
    ·cases h
    ·rename_i z aR
     cases h;obtain⟨w,aG,bR⟩:=B0 bP ad;have:=aY.jd _ _ _ _ _ _ _ bR hy;subst this;simp only[rJ,IA,IB];refine y5 aY bP aP o3 (EE (R.keep (MT _)) (Tc (cT:={cT with aK:=cT.aK++U.yW t y}) ⟨cH.ids,cH.dk,cH.cells,cH.row⟩ aG) (aY.hS t y cT.aK uz fs)) ?_ rN cH.kQ aR;rw[M4];exact dc.trans (hK _ _)
 |(l,.c v)::r,u,x,cT,f,uz,R,dc,rN,cH,h=>by
  simp only[o1]at h;cases hu:at_ s1 l with
  |none=>rw[hu]at h;cases h
  |some u=>
   rw[hu]at h;cases af:same u v<;>cases ak:wf B.length ρ.length v<;>simp only[af,ak]at h
   ·cases h
   ·cases h
   ·cases h
   ·obtain⟨w,aG,bR⟩:=B0 bP hu
    have:=M0 o3 aP ak (S6 af bR);simp only[rJ];exact y5 aY bP aP o3 (EE R (Tc cH aG) (this.mono dc rN)) (by rw[M4];exact dc) rN (cH.kQ (B:=cT.aK)) h
 |(_,.d)::r,u,x,cT,f,uz,R,dc,rN,cH,h=>by
  exact y5 (sh:=r) (x:=x) aY bP aP o3 R dc rN cH (by simp only[o1]at h;exact h)
 |(l,.r c)::r,u,x,cT,f,uz,R,dc,rN,cH,h=>by
  simp only[o1]at h;split at h
  ·cases h
  ·rename_i v ad
   obtain⟨w,aG,bR⟩:=B0 bP ad;split at h
   ·rename_i o
    have key:∀{fD:ck U} {y:U.ax c} {z:ee U (jf r)},bj s1.mem o=some fD->uy fD=false->gB.mem o u=false->(match Nat.ble ρ.length o with|true=>true|false=>rI o 0 M)=true->o1 B.length ρ.length M s1 (o::u) r=some z->
      (∀aV,rowAt c y=some aV->uy aV=false/\∀B cS,cS[cT.aD]? =some w->pU U b B cS fs cT.aD (az o) aV)->∃G' cS,b7 U b F fs (rJ ((l,.r c)::r) (yY (jf r) y z) cT) cU H1 G' cS/\ρ <+: cS:=by
     intro fD y z hm h0 hu hc aR eO
     have hc:ρ.length<=o\/(o,0)∈M:=by
      split at hc
      ·rename_i e;exact .inl (mh e)
      ·exact .inr (BW.1 hc)
     have mu:∀o',gB.mem o' (o::u)=false->gB.mem o' u=false:=fun o' q=>by
      simp only[gB.mem]at q;split at q
      ·cases q
      ·exact q
     simp only[rJ,IA,IB];split
     ·rename_i aV F6
      obtain⟨bQ,c6⟩:=eO aV F6
      obtain⟨ml,f1,f2⟩:=cH.add bP R (u':=o::u) (some o) (fun o' e=>by
       cases e;exact⟨IK hm,cH.row o fD h0 hm hu hc,by simp[gB.mem]⟩) mu bQ c6 aG
      exact y5 aY bP aP o3 f2 (by rw[M4];exact dc) (rN.trans (hK _ _)) f1 aR
     ·exact y5 aY bP aP o3 R dc rN ⟨cH.ids,cH.dk,cH.cells,fun o' aV a0 al a2 a3=>cH.row o' aV a0 al (mu o' a2) a3⟩ aR
    split at h
    ·rename_i t lq hm hu hc
     split at h
     ·cases h
     ·rename_i y hy
      split at h
      ·cases h
      ·rename_i z aR
       cases h;refine key hm rfl hu hc aR fun aV eO=> ?_;obtain⟨ey,oI,rfl,e⟩:=afP aY hy .sl eO;obtain⟨v0,q1,q2⟩:=bP.mem o _ hm;cases bR with
       |row ho=>
        rw[q1]at ho;cases ho;exact⟨rfl,fun B cS q=>⟨_,q,avi e q2⟩⟩
    ·rename_i eI kc lq hm hu hc
     split at h
     ·cases h
     ·rename_i y hy
      split at h
      ·cases h
      ·rename_i z aR
       cases h;refine key hm rfl hu hc aR fun aV eO=> ?_;rw[avh hy]at eO;cases eO;obtain⟨a,q1,q2⟩:=bP.mem o _ hm;cases bR with
       |row ho=>
        rw[q1]at ho;cases ho;exact⟨rfl,fun B cS q=>⟨_,q,q2⟩⟩
    ·cases h
   ·split at h
    ·cases h
    ·rename_i aEf hn
     split at h
     ·cases h
     ·rename_i y hy
      split at h
      ·cases h
      ·rename_i z aR
       cases h;simp only[rJ,IA,IB];have M6:=avk hn bR;split
       ·rename_i aV F6
        obtain⟨ey,oI,rfl,e⟩:=afP aY hy M6 F6;obtain⟨ml,f1,f2⟩:=cH.add (aV:=.row ey oI) bP R (u':=u) none (fun _ e=>by cases e) (fun _ q=>q) rfl (fun B cS q=>⟨_,q,avj hn M6 e⟩) aG;exact y5 aY bP aP o3 f2 (by rw[M4];exact dc) (rN.trans (hK _ _)) f1 aR
       ·exact y5 aY bP aP o3 R dc rN cH aR
theorem b7.M7 (R:b7 U b F fs s σ H G ρ){dL:List Nat}{cI:List (Nat × Nat)}:b7 U b F fs {s with dQ:=[],dL:=dL,cI:=cI} σ H G ρ:=
 ⟨R.aD,R.vs,R.own,R.dk,R.lt,R.mem,fun _ _ h=>by cases h⟩
theorem M8 (aY:gp U)(R:b7 U b F fs s σ H G ρ)(bP:b7 U b F fs s1 cU H1 az gf)(aP:ρ <+: gf){sh:nB U}{x:ee U (jf sh)}(gZ:iD (fV sh++W) (M++iB sh) s s1)(h:o1 s.aK.length s.aD (M++iB sh) s1 [] sh=some x):
  ∃G' cS,b7 U b F fs (enter W M sh x s) cU H1 G' cS/\ρ <+: cS:=by
 have qE:=afM R bP aP gZ;have e:∀l:List Nat,l.filterMap some=l:=fun l=>List.filterMap_some
 obtain⟨G',cS,bB,ca⟩:=y5 aY bP aP gZ.aK (f:=some) (M:=M++iB sh) qE dW dW ⟨by
  rw[e];intro o ho;obtain⟨⟨o',c⟩,he,rfl⟩:=dZ.1 ho;rcases BZ he with⟨w,cs,h1,-⟩|⟨h1,hc,h2⟩
  ·obtain⟨cs',ar,-⟩:=gZ.mem _ _ _ (xx R.dk h1)
   exact IK ar
  ·exact IK ((gZ.row _ _ hc (xx R.dk h1)).resolve_right h2),by rw[e];exact qE.dk,fun _ _ _ _=>rfl,by
  rw[e];intro o aV h0 hm _ hc ho;obtain⟨⟨o',c⟩,he,rfl⟩:=dZ.1 ho;rcases BZ he with⟨w,cs,h1,-⟩|⟨h1,-,h2⟩
  ·obtain⟨cs',ar,-⟩:=gZ.mem _ _ _ (xx R.dk h1)
   rw[hm]at ar;cases ar;cases h0
  ·rcases hc with hc|hc
   ·have:=R.lt _ h1
    rw[R.aD]at hc;exact absurd this (Nat.not_lt.2 hc)
   ·exact h2 hc⟩ (by rw[R.aD];exact h)
 exact⟨G',cS,bB.M7,ca⟩
theorem M9{l:Loc}{v:aO U.ax}{B:List Bool}(dc:s.aK <+: B)(hW:∀t,l=.s t->t∈W)(kT:∀o j,l=.m o j->(o,j)∈M):iD W M s (kQ {s with aK:=B} l v):=by
 cases l with
 |s t=>
  refine⟨fun k hk=> ?_,dc,aH _,fun o w cs h=>⟨cs,h,rfl,fun _ _=>rfl⟩,fun _ _ _ h=>.inl h⟩;show bj ((t,v)::s.vs) k=_;rw[fZ,if_neg];intro e;subst e;exact hk (hW _ rfl)
 |m o j=>
  simp only[kQ];split
  ·rename_i wr cs hm
   have hm:bj s.mem o=some (.cells wr cs):=hm;refine⟨fun _ _=>rfl,dc,aH _,fun q w cs' h=> ?_,fun q aV hc h=> ?_⟩
   ·simp only[uw]
    by_cases e:q=o
    ·subst e
     rw[h]at hm;cases hm;refine⟨_,by rw[if_pos rfl,h];rfl,by simp,fun i hi=> ?_⟩;rw[jx];intro e;subst e;exact hi (kT _ _ rfl)
    ·exact⟨cs',by rw[if_neg e];exact h,rfl,fun _ _=>rfl⟩
   ·simp only[uw]
    by_cases e:q=o
    ·subst e;rw[h]at hm;cases hm;cases hc
    ·rw[if_neg e];exact .inl h
  ·exact⟨fun _ _=>rfl,dc,aH _,fun o w cs h=>⟨cs,h,rfl,fun _ _=>rfl⟩,fun _ _ _ h=>.inl h⟩
theorem avm{aV:ck U}(lt:∀e∈s.mem,e.1<s.aD):iD W M s (kP s aV):=by
 have key:∀{o:Nat} {c:ck U},bj s.mem o=some c->bj (kP s aV).mem o=some c:=fun {o c} h=>by
  show bj ((s.aD,aV)::s.mem) o=_;rw[fZ,if_neg (Nat.ne_of_gt (lt _ (ju h)))];exact h
 exact⟨fun _ _=>rfl,dW,Fu _,fun o w cs h=>⟨cs,key h,rfl,fun _ _=>rfl⟩,fun _ _ _ h=>.inl (key h)⟩
theorem Td{l:Loc}{v:aO U.ax}{B:List Bool}(lt:∀e∈s.mem,e.1<s.aD):∀e∈(kQ {s with aK:=B} l v).mem,e.1<(kQ {s with aK:=B} l v).aD:=fun e he=>by
 have h:=r2 (f:=Prod.fst) he;obtain⟨h1,h2⟩:=afO (s:={s with aK:=B}) (l:=l) (v:=v);rw[h1]at h;rw[h2];obtain⟨e',q1,q2⟩:=dZ.1 h;rw[<-q2];exact lt e' q1
theorem EF:∀(sh:nB U) (x:ee U (jf sh)) (s:bA U),(∀e∈s.mem,e.1<s.aD)->(∀t∈fV sh,t∈W)->(∀p∈iB sh,p∈M)->iD W M s (rJ sh x s)
 |[],_,_,_,_,_=>.rfl
 |(l,p)::r,x,s,lt,hW,kT=>by
  have B1:∀t,l=.s t->t∈W:=fun t e=>hW t (by subst e;exact p5 ..);have IL:∀t∈fV r,t∈W:=fun t h=>hW t (by cases l<;>first|exact kW _ h|exact h);have Te:∀o j,l=.m o j->(o,j)∈M:=fun o j e=>kT _ (by subst e;exact p5 ..);have IM:∀q∈iB r,q∈M:=fun q h=>kT q (by cases l<;>first|exact kW _ h|exact h);cases p with
  |p c=>exact(M9 (hK _ _) B1 Te).trans (EF r _ _ (Td lt) IL IM)
  |c v=>exact(M9 (B:=s.aK) dW B1 Te).trans (EF r _ _ (Td (B:=s.aK) lt) IL IM)
  |d=>exact EF r _ _ lt IL IM
  |r c=>
   simp only[rJ];split
   ·rename_i aV _
    have avn:∀e∈(kP s aV).mem,e.1<(kP s aV).aD:=fun e he=>by
     rcases dx.1 he with rfl|he
     ·exact zE _
     ·exact Oj (lt e he)
    exact(avm lt).trans ((M9 (s:=kP s aV) (B:=s.aK) dW B1 Te).trans (EF r _ _ (Td (s:=kP s aV) (B:=s.aK) avn) IL IM))
   ·exact EF r _ _ lt IL IM
theorem afR (lt:∀e∈s.mem,e.1<s.aD){sh:nB U}{x:ee U (jf sh)}:iD (fV sh++W) (M++iB sh) s (enter W M sh x s):=by
 have h:=(afJ (s:=s) (W:=fV sh++W) (M:=M++iB sh)).trans (EF sh x _ (fun e he=>by
  obtain⟨e',h1,h2⟩:=dZ.1 ((BX (M:=M++iB sh) s.mem).subset (r2 (f:=Prod.fst) he));rw[<-h2];exact lt e' h1) (fun t ht=>x5 _ ht) (fun p hp=>pZ _ hp))
 exact⟨h.vs,h.aK,h.aD,h.mem,h.row⟩
theorem afS (lt:∀e∈s.mem,e.1<s.aD){sh:nB U}{x:ee U (jf sh)}:Fr s (enter W M sh x s):=by
 have cI:∀{p},p∈M++iB sh->p∈M++(iB sh++s.cI):=fun q=>by rw[<-kA];exact x5 _ q
 have gZ:=afR (W:=W) (M:=M) lt (x:=x)
 exact {
  vs:=fun t ht=>gZ.vs t fun q=>ht (by
   show t∈fV sh++(W++s.dL);rw[<-kA];exact x5 _ q)
  dL:=fun t ht=>pZ _ (pZ _ ht)
  cI:=fun t ht=>pZ _ (pZ _ ht)
  aK:=gZ.aK
  aD:=gZ.aD
  mem:=fun o w cs h=>by
   obtain⟨cs',h1,h2,ar⟩:=gZ.mem o w cs h;exact⟨cs',h1,h2,fun j hj=>ar j fun q=>hj (cI q)⟩
  row:=fun o aV hc h=>(gZ.row o aV hc h).imp id cI}
theorem Tf{n m:Nat}{sh:nB U}{y:ee U (jf sh)}(h:Eu n m W M sh s1=some y):(∀t∈s1.dL,t∈W)/\(∀o j,(o,j)∈s1.cI->o<m->(o,j)∈M++iB sh)/\o1 n m (M++iB sh) s1 [] sh=some y:=by
 unfold Eu at h;split at h
 ·cases h
 ·rename_i af
  split at h
  ·rename_i ak;exact⟨S8 af,S9 ak,h⟩
  ·cases h
theorem afT{x y:X}(h:MJ x y=true):x=y:=by
 cases x<;>cases y<;>simp only[MJ]at h<;>first|rfl|cases h|rw[eE h]
theorem Tg{A:Type}[aJ A]{S:A->Prop}{n m:Nat}{x:X}{k:X->bA U->A}:∀{os:y1 U} {o:Bz U (BD os)},BF n m W M x s1 os=some o->∃(sh:nB U) (y:ee U (jf sh)),Eu n m W M sh s1=some y/\(S (leave W M s k os o)->S (k x (enter W M sh y s)))
 |[],_,h=>by cases h
 |[(fQ,sh)],o,h=>by
  simp only[BF]at h;split at h
  ·rename_i e;rw[afT e];exact⟨sh,o,h,fun q=>q⟩
  ·cases h
 |(fQ,sh)::q::r,o,h=>by
  simp only[BF]at h;split at h
  ·rename_i e
   split at h
   ·rename_i y hy
    cases h;rw[afT e];exact⟨sh,y,hy,fun q=>q⟩
   ·cases h
  ·split at h
   ·rename_i y hy
    cases h;obtain⟨avo,oI,h1,h2⟩:=Tg (S:=S) (k:=k) hy;exact⟨avo,oI,h1,h2⟩
   ·cases h
end
end Go.Abs.gB
